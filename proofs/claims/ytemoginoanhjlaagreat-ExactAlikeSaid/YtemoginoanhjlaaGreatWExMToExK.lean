/- exact: the product over the whole numbers; its bound; from its rests. Plain. -/
import Derived.Test.YtemoginoanhjlaaGreatExB
import Derived.Test.YtemoginoanhjlaaGreatLin
import Derived.Test.YtemoginoanhjlaaGreatWGarCGarD
import Derived.Test.YtemoginoanhjlaaGreatWR2MToPadM
import Derived.Test.YtemoginoanhjlaaGreatWTwidToRdB
import Derived.Test.YtemoginoanhjlaaGreatQTail
set_option linter.unusedVariables false
set_option linter.unusedSimpArgs false
set_option linter.unusedSectionVars false
section
/- exact: the product over the whole numbers; its bound; from its rests. Plain. -/
set_option linter.unusedVariables false
set_option linter.unusedSimpArgs false
namespace Go.Proofs.YtemoginoanhjlaaGreat
open Go.RowKit
open Alg
/-- A sum of whole numbers. -/
def sI (n : Nat) (f : Nat → Int) : Int :=
  match n with
  | 0 => 0
  | n + 1 => sI n f + f n
theorem sI_succ (n : Nat) (f : Nat → Int) : sI (n + 1) f = sI n f + f n := rfl
theorem sI_congr {n : Nat} {f g : Nat → Int} (h : ∀ i, i < n → f i = g i) : sI n f = sI n g := by
  induction n with
  | zero => rfl
  | succ n ih => rw [sI_succ, sI_succ, ih (fun i hi => h i (by omega)), h n (by omega)]
theorem sI_zero {n : Nat} {f : Nat → Int} (h : ∀ i, i < n → f i = 0) : sI n f = 0 := by
  induction n with
  | zero => rfl
  | succ n ih => rw [sI_succ, ih (fun i hi => h i (by omega)), h n (by omega)]; rfl
theorem sI_neg (n : Nat) (f : Nat → Int) : sI n (fun i => -f i) = -sI n f := by
  induction n with
  | zero => rfl
  | succ n ih => rw [sI_succ, sI_succ, ih]; omega
theorem sI_first (n : Nat) (f : Nat → Int) : sI (n + 1) f = f 0 + sI n (fun i => f (i + 1)) := by
  induction n with
  | zero => show (0 : Int) + f 0 = f 0 + 0; omega
  | succ n ih => rw [sI_succ, ih, sI_succ]; omega
theorem sI_flip (n : Nat) (f : Nat → Int) : sI (n + 1) (fun i => f (n - i)) = sI (n + 1) f := by
  induction n generalizing f with
  | zero => rfl
  | succ n ih =>
    have h1 : sI (n + 1) (fun i => f (n + 1 - i)) = sI (n + 1) (fun i => f (i + 1)) := by
      rw [← ih (fun i => f (i + 1))]
      exact sI_congr fun i hi => by rw [show n - i + 1 = n + 1 - i by omega]
    rw [sI_succ, h1, sI_first (n + 1) f, Nat.sub_self]
    omega
theorem sI_nonneg {n : Nat} {f : Nat → Int} (h : ∀ i, i < n → 0 ≤ f i) : 0 ≤ sI n f := by
  induction n with
  | zero => exact Int.le_refl 0
  | succ n ih => rw [sI_succ]; have := ih (fun i hi => h i (by omega)); have := h n (by omega); omega
theorem sI_abs {n : Nat} {f : Nat → Int} {M la : Nat} (h : ∀ i, (f i).natAbs ≤ M) (h0 : ∀ i, la ≤ i → f i = 0) : (sI n f).natAbs ≤ Nat.min n la * M := by
  induction n with
  | zero => simp [sI]
  | succ n ih =>
    rw [sI_succ]
    rcases Nat.lt_or_ge n la with h1 | h1
    · rw [show Nat.min (n + 1) la = n + 1 by simp [Nat.min_def]; omega, Nat.add_mul, Nat.one_mul]
      rw [show Nat.min n la = n by simp [Nat.min_def]; omega] at ih
      have := h n
      omega
    · rw [h0 n h1, show Nat.min (n + 1) la = la by simp [Nat.min_def]; omega]
      rw [show Nat.min n la = la by simp [Nat.min_def]; omega] at ih
      omega
theorem sI_le {n : Nat} {f : Nat → Int} {M la : Nat} (h : ∀ i, (f i).natAbs ≤ M) (h0 : ∀ i, la ≤ i → f i = 0) : (sI n f).natAbs ≤ la * M :=
  Nat.le_trans (sI_abs h h0) (Nat.mul_le_mul_right _ (Nat.min_le_right _ _))
/-- The product of two lists, straight on. -/
def cI (A B : List Int) (k : Nat) : Int := sI (k + 1) fun i => A.getD i 0 * B.getD (k - i) 0
theorem getD_out {A : List Int} {i : Nat} (h : A.length ≤ i) : A.getD i 0 = 0 := by
  rw [List.getD_eq_getElem?_getD, List.getElem?_eq_none h]; rfl
theorem cI_comm (A B : List Int) (k : Nat) : cI A B k = cI B A k := by
  unfold cI
  rw [← sI_flip]
  exact sI_congr fun i hi => by rw [show k - (k - i) = i by omega, Int.mul_comm]
theorem mxI_left (a b : Int) : a ≤ mxI a b := by unfold mxI; split <;> omega
theorem mxI_right (a b : Int) : b ≤ mxI a b := by unfold mxI; split <;> omega
theorem foldl_mx (L : List Int) : ∀ (m : Int), m ≤ L.foldl mxI m ∧ ∀ x ∈ L, x ≤ L.foldl mxI m := by
  induction L with
  | nil => intro m; exact ⟨Int.le_refl _, by simp⟩
  | cons y r ih =>
    intro m
    have h1 := ih (mxI m y)
    refine ⟨Int.le_trans (mxI_left m y) h1.1, fun x hx => ?_⟩
    rcases List.mem_cons.1 hx with rfl | hx
    · exact Int.le_trans (mxI_right m x) h1.1
    · exact h1.2 x hx
theorem mostL_nonneg (L : List Int) : 0 ≤ mostL L := (foldl_mx L 0).1
theorem mostL_ge {L : List Int} {x : Int} (h : x ∈ L) : x ≤ mostL L := (foldl_mx L 0).2 x h
theorem foldl_in (L : List Int) : ∀ (m : Int), L.foldl mxI m = m ∨ L.foldl mxI m ∈ L := by
  induction L with
  | nil => intro m; exact .inl rfl
  | cons y r ih =>
    intro m
    rcases ih (mxI m y) with h | h
    · by_cases h2 : m < y
      · right
        have e : mxI m y = y := by unfold mxI; rw [if_pos h2]
        rw [List.foldl_cons, h, e]
        exact List.mem_cons_self
      · left
        have e : mxI m y = m := by unfold mxI; rw [if_neg h2]
        rw [List.foldl_cons, h, e]
    · right; exact List.mem_cons_of_mem _ h
theorem mostL_lt {L : List Int} (h : U64s L) : mostL L ≤ 18446744073709551615 := by
  rcases foldl_in L 0 with h1 | h1
  · unfold mostL; rw [h1]; omega
  · exact (h _ h1).2
theorem natAbs_most {A : List Int} (i : Nat) : (A.getD i 0).natAbs ≤ (mostL (sizesL A)).toNat := by
  rw [List.getD_eq_getElem?_getD]
  rcases Nat.lt_or_ge i A.length with h | h
  · rw [List.getElem?_eq_getElem h]
    have h1 : ((A[i].natAbs : Nat) : Int) ∈ sizesL A := List.mem_map.2 ⟨_, List.getElem_mem h, rfl⟩
    have h2 := mostL_ge h1
    show A[i].natAbs ≤ _
    omega
  · rw [List.getElem?_eq_none h]; simp
/-- THE BOUND. -/
theorem cI_abs (A B : List Int) (k : Nat) : (cI A B k).natAbs ≤ (mostL (sizesL A)).toNat * (mostL (sizesL B)).toNat * (mnI A.length B.length).toNat := by
  have hM : ∀ (A B : List Int) i, (A.getD i 0 * B.getD (k - i) 0).natAbs ≤ (mostL (sizesL A)).toNat * (mostL (sizesL B)).toNat := fun A B i => by
    rw [Int.natAbs_mul]; exact Nat.mul_le_mul (natAbs_most i) (natAbs_most (k - i))
  have h1 : ∀ A B : List Int, (cI A B k).natAbs ≤ A.length * ((mostL (sizesL A)).toNat * (mostL (sizesL B)).toNat) := fun A B =>
    sI_le (hM A B) (fun i hi => by rw [getD_out hi, Int.zero_mul])
  have ha := h1 A B
  have hb := h1 B A
  rw [cI_comm B A, Nat.mul_comm (mostL (sizesL B)).toNat] at hb
  rw [mnI_eq, Int.toNat_natCast, Nat.mul_comm]
  rcases Nat.le_total A.length B.length with h | h
  · rw [Nat.min_eq_left h]; exact ha
  · rw [Nat.min_eq_right h]; exact hb
theorem cI_nonneg {A B : List Int} (hA : ∀ x ∈ A, 0 ≤ x) (hB : ∀ x ∈ B, 0 ≤ x) (k : Nat) : 0 ≤ cI A B k := by
  have hg : ∀ {L : List Int}, (∀ x ∈ L, 0 ≤ x) → ∀ i, 0 ≤ L.getD i 0 := fun {L} h i => by
    rw [List.getD_eq_getElem?_getD]
    rcases Nat.lt_or_ge i L.length with h1 | h1
    · rw [List.getElem?_eq_getElem h1]; exact h _ (List.getElem_mem h1)
    · rw [List.getElem?_eq_none h1]; exact Int.le_refl 0
  exact sI_nonneg fun i _ => Int.mul_nonneg (hg hA _) (hg hB _)
theorem zt_sI {p : Nat} [NeZero p] (n : Nat) (f : Nat → Int) : zt p (sI n f) = sm n fun i => zt p (f i) := by
  induction n with
  | zero => exact zt_zero
  | succ n ih => rw [sI_succ, zt_add, ih, sm_succ]
/-- A list's rests. -/
def resL (p : Int) (A : List Int) : List Int := full A.length fun i => A.getD i 0 % p
theorem resL_length (p : Int) (A : List Int) : (resL p A).length = A.length := full_length _ _
theorem resL_u64 {p : Int} (h0 : 0 < p) (h1 : p ≤ 18446744073709551616) (A : List Int) : U64s (resL p A) := fun x hx => by
  simp only [resL, full, List.mem_map, List.mem_range] at hx
  obtain ⟨i, _, rfl⟩ := hx
  have := Int.emod_nonneg (A.getD i 0) (show p ≠ 0 by omega)
  have := Int.emod_lt_of_pos (A.getD i 0) h0
  omega
theorem resL_good {p : Int} (h0 : 0 < p) (A : List Int) : goodB p (resL p A) = true := by
  unfold goodB
  rw [List.all_eq_true]
  intro x hx
  simp only [resL, full, List.mem_map, List.mem_range] at hx
  obtain ⟨i, _, rfl⟩ := hx
  have := Int.emod_lt_of_pos (A.getD i 0) h0
  simpa using this
theorem pad_res {p : Nat} [NeZero p] (A : List Int) (i : Nat) : padz (resL p A).length (rz p (resL p A)) i = zt p (A.getD i 0) := by
  rw [resL_length]
  rcases Nat.lt_or_ge i A.length with h | h
  · rw [padz_in h]
    unfold rz resL
    rw [full_get h, zt_emod]
  · rw [padz_out h, getD_out h, zt_zero]
theorem lcv_cI {p : Nat} [NeZero p] (A B : List Int) (k : Nat) : ((lcv p (resL p A) (resL p B) k).val : Int) = cI A B k % (p : Int) := by
  rw [← zt_val]
  unfold cI lcv cv
  rw [zt_sI]
  congr 2
  exact sm_congr fun i _ => by rw [pad_res, pad_res, zt_mul]
/-- The rests by three primes name the number. -/
theorem join_is {p q r : Nat} (hT : Tri p q r) {c : Int} {j : Nat} (hj : j < p * q * r) (h1 : (j : Int) % (p : Int) = c % (p : Int)) (h2 : (j : Int) % (q : Int) = c % (q : Int)) (h3 : (j : Int) % (r : Int) = c % (r : Int)) :
    j = (c % ((p * q * r : Nat) : Int)).toNat := by
  have hN : 0 < p * q * r := by omega
  have hp3 := hT.p3
  have hq3 := hT.q3
  have hr3 := hT.r3
  obtain ⟨x, hx⟩ : ∃ x : Nat, (x : Int) = c % ((p * q * r : Nat) : Int) := ⟨(c % ((p * q * r : Nat) : Int)).toNat, Int.toNat_of_nonneg (Int.emod_nonneg _ (by omega))⟩
  rw [← hx, Int.toNat_natCast]
  have hxl : x < p * q * r := by
    have := Int.emod_lt_of_pos c (show (0 : Int) < ((p * q * r : Nat) : Int) by omega)
    omega
  have hm : ∀ m : Nat, m ∣ p * q * r → (j : Int) % (m : Int) = c % (m : Int) → j % m = x % m := fun m hd h => by
    have e : (x : Int) % (m : Int) = c % (m : Int) := by
      rw [hx]; exact Int.emod_emod_of_dvd c (Int.ofNat_dvd.2 hd)
    rw [← e, ← Int.natCast_emod, ← Int.natCast_emod] at h
    omega
  have hc := crt3 (prime_coprime hT.hp hT.hq hT.pq) (prime_coprime hT.hp hT.hr hT.pr) (prime_coprime hT.hq hT.hr hT.qr) (hm p ⟨q * r, by rw [Nat.mul_assoc]⟩ h1) (hm q ⟨p * r, by rw [Nat.mul_comm p q, Nat.mul_assoc]⟩ h2) (hm r ⟨p * q, by rw [Nat.mul_comm]⟩ h3)
  rwa [Nat.mod_eq_of_lt hj, Nat.mod_eq_of_lt hxl] at hc
/-- A whole number, going round 2^192. -/
def w192 (c : Int) : Nat := (c % 6277101735386680763835789423207666416102355444464034512896).toNat
theorem w192_lt (c : Int) : w192 c < 6277101735386680763835789423207666416102355444464034512896 := by unfold w192; omega
theorem plain_is {N : Nat} {c : Int} (hN : N < 6277101735386680763835789423207666416102355444464034512896) (h0 : 0 ≤ c) (h1 : c.natAbs < N) : (c % (N : Int)).toNat = w192 c := by
  unfold w192
  rw [Int.emod_eq_of_lt h0 (by omega), Int.emod_eq_of_lt h0 (by omega)]
theorem centre_is {N : Nat} {c : Int} (hN : N < 6277101735386680763835789423207666416102355444464034512896) (h1 : 2 * c.natAbs < N) : (if (c % (N : Int)).toNat ≤ N / 2 then (c % (N : Int)).toNat else dif ((c % (N : Int)).toNat) N) = w192 c := by
  rcases Int.lt_or_le c 0 with h | h
  · have e : c % (N : Int) = c + N := by
      rw [← Int.add_emod_right c (N : Int), Int.emod_eq_of_lt (by omega) (by omega)]
    rw [e, if_neg (by omega)]
    unfold dif w192
    omega
  · rw [Int.emod_eq_of_lt h (by omega), if_pos (by omega)]
    unfold w192
    omega
end Go.Proofs.YtemoginoanhjlaaGreat
end

section
/- exact: lists of threes in memory. -/
set_option linter.unusedVariables false
set_option linter.unusedSimpArgs false
namespace Go.Proofs.YtemoginoanhjlaaGreat
open Go.RowKit
open Alg
/-- A block of n threes. -/
def R3 (W : World) (G n : Nat) (X : Nat → Nat) : Prop :=
  ∃ cs, RowAt W G 69 cs ∧ cs.size = n * 3 ∧ ∀ k, k < n → ∀ j, j < 3 → cs[k * 3 + j]? = some (.int .u64 ((wd (X k) j : Nat) : Int))
theorem R3.lt {W : World} {G n : Nat} {X : Nat → Nat} (h : R3 W G n X) : G < W.heap.size := by
  obtain ⟨cs, h1, _⟩ := h
  exact h1.lt
theorem R3.keep {W W' : World} {G n : Nat} {X : Nat → Nat} (h : R3 W G n X) (hB : Below W.heap.size W W') : R3 W' G n X := by
  obtain ⟨cs, h1, h2⟩ := h
  exact ⟨cs, h1.keep hB, h2⟩
theorem R3.alloc {W : World} {G n : Nat} {X : Nat → Nat} (h : R3 W G n X) (o : Obj) : R3 (W.alloc o) G n X := by
  obtain ⟨cs, h1, h2⟩ := h
  exact ⟨cs, h1.alloc o, h2⟩
theorem R3.setOther {W : World} {G n : Nat} {X : Nat → Nat} (h : R3 W G n X) (a : Addr) (v : Value) (hne : G ≠ a.block) : R3 (W.setCell a v) G n X := by
  obtain ⟨cs, h1, h2⟩ := h
  exact ⟨cs, h1.setOther a v hne, h2⟩
theorem R3.setRowOther {W : World} {G n : Nat} {X : Nat → Nat} (h : R3 W G n X) (g : Nat) (c : Array Value) (hne : G ≠ g) : R3 (W.setRow g c) G n X := by
  obtain ⟨cs, h1, h2⟩ := h
  exact ⟨cs, h1.setRowOther g c hne, h2⟩
theorem R3.setCellsOther {W : World} {G n : Nat} {X : Nat → Nat} (h : R3 W G n X) (g o : Nat) (c : List Value) (hne : G ≠ g) : R3 (W.setCells g o c) G n X := by
  obtain ⟨cs, h1, h2⟩ := h
  exact ⟨cs, h1.setCellsOther hne _ _ _, h2⟩
theorem tl_wd (x j : Nat) (v : Value) (h : (tl x)[j]? = some v) : j < 3 ∧ v = .int .u64 ((wd x j : Nat) : Int) := by
  match j, h with
  | 0, h => simp [tl] at h; subst h; exact ⟨by omega, by simp [wd]⟩
  | 1, h => simp [tl] at h; subst h; exact ⟨by omega, by simp [wd]⟩
  | 2, h => simp [tl] at h; subst h; exact ⟨by omega, by simp [wd]⟩
theorem three_tl_get (x j : Nat) (hj : j < 3) : (three x).toList[j]? = some (.int .u64 ((wd x j : Nat) : Int)) := by
  rw [Array.getElem?_toList]; exact three_get x j hj
theorem R3.range {W : World} {G n : Nat} {X : Nat → Nat} (h : R3 W G n X) (k : Nat) (hk : k < n) : W.rangeAt G (k * 3) (tl (X k)) := fun j v hv => by
  obtain ⟨cs, h1, h2, h3⟩ := h
  obtain ⟨hj, rfl⟩ := tl_wd _ _ _ hv
  exact h1.cell (h3 k hk j hj)
theorem R3.there {W : World} {G n : Nat} {X : Nat → Nat} (h : R3 W G n X) (k : Nat) (hk : k < n) : W.there G (k * 3) 3 := fun j hj => by
  obtain ⟨cs, h1, h2, h3⟩ := h
  exact ⟨by rw [h1.cell (h3 k hk j hj)]; simp, h1.frozen _⟩
theorem R3.set {W : World} {G n : Nat} {X : Nat → Nat} (h : R3 W G n X) (k : Nat) (hk : k < n) (x : Nat) : R3 (W.setCells G (k * 3) (three x).toList) G n (fun i => if i = k then x else X i) := by
  obtain ⟨cs, h1, h2, h3⟩ := h
  have hl : (three x).toList.length = 3 := rfl
  obtain ⟨c', e1, e2, e3⟩ := RowAt.setCells' (three x).toList (k * 3) W cs h1 (by rw [hl, h2]; omega)
  refine ⟨c', e1, by rw [e2, h2], fun i hi j hj => ?_⟩
  rw [e3, hl]
  show _ = some (Value.int .u64 ((wd (if i = k then x else X i) j : Nat) : Int))
  by_cases hik : i = k
  · subst hik
    rw [if_pos (by omega), if_pos rfl, show i * 3 + j - i * 3 = j by omega]
    exact three_tl_get x j hj
  · rw [if_neg (by omega), if_neg hik]
    exact h3 i hi j hj
theorem R3.congr {W : World} {G n : Nat} {X Y : Nat → Nat} (h : R3 W G n X) (he : ∀ i, i < n → X i = Y i) : R3 W G n Y := by
  obtain ⟨cs, h1, h2, h3⟩ := h
  exact ⟨cs, h1, h2, fun k hk j hj => by rw [← he k hk]; exact h3 k hk j hj⟩
theorem made_get (z : Array Value) (n i : Nat) (hz : 0 < z.size) (hi : i < n) : (madeCells z n).toList[i]? = z[i % z.size]? := by
  unfold madeCells
  have := Nat.mod_lt i hz
  simp [hi, Array.getElem?_eq_getElem this, getElem!_pos, this]
theorem R3.new {W : World} {B G n : Nat} (h : W.ownsRow B 69 3 (.slice (some ⟨G, 0, none⟩) n n) n (madeCells (Value.agg (three 0)).cells (n * 3)).toList) : R3 W G n (fun _ => 0) := by
  obtain ⟨hlen, ⟨e, _⟩ | ⟨g, cap, cur, e, _, hg, hcap, _, hsz, htk⟩⟩ := h
  · cases e
  · injection e with e1 e2 e3
    injection e1 with e1
    injection e1 with e1
    subst e1
    subst e3
    refine ⟨cur, hg, hsz, fun k hk j hj => ?_⟩
    have h1 : (cur.toList.take (n * 3))[k * 3 + j]? = (madeCells (Value.agg (three 0)).cells (n * 3)).toList[k * 3 + j]? := by rw [htk]
    rw [List.getElem?_take_of_lt (by omega), Array.getElem?_toList] at h1
    rw [h1]
    have hs : (Value.agg (three 0)).cells = three 0 := rfl
    rw [hs, made_get _ _ _ (by rw [three_size]; omega) (by omega), three_size, show (k * 3 + j) % 3 = j by omega]
    exact three_get 0 j hj
theorem tl_list (x : Nat) : (tl x).toArray = three x := rfl
end Go.Proofs.YtemoginoanhjlaaGreat
end

section
/- exact: rests, join, Unsigned, Signed. -/
set_option linter.unusedVariables false
set_option linter.unusedSimpArgs false
namespace Go.Proofs.YtemoginoanhjlaaGreat
open Go.RowKit
open Alg
theorem Tri.lt' {p q r : Nat} (hT : Tri p q r) : 0 < p * q * r ∧ p * q * r < 6277101735386680763835789423207666416102355444464034512896 := by
  have h1 : p * q * r ≤ 9223372036854775808 * 9223372036854775808 * 9223372036854775808 := Nat.mul_le_mul (Nat.mul_le_mul (Nat.le_of_lt hT.pm) (Nat.le_of_lt hT.qm)) (Nat.le_of_lt hT.rm)
  have h0 : 0 < p * q * r := Nat.mul_pos (Nat.mul_pos (by have := hT.p3; omega) (by have := hT.q3; omega)) (by have := hT.r3; omega)
  exact ⟨h0, by omega⟩
theorem fnegx_fd {w : World} {B : Nat} {v : Value} {p g : Int} (h : Fd w B v p g) (x : Int) (hx0 : 0 ≤ x) (hx : x ≤ 18446744073709551615) :
    Calls Tryz.prog 126 #[v, .int .u64 x] w fun e w' => e = .returned (.int .u64 ((-x) % p)) ∧ ∃ n, w' = w.drewN n := by
  obtain ⟨b, c, t, o, s, sv, rfl, hb, hc, hF⟩ := h
  have f0 := hF.f0
  go_enter Tryz.func126, Tryz.ntmps126
  go_wp2_with fail
  refine (mneg_any hF.ctx x hx0 hx).mono ?_
  rintro e w1 ⟨rfl, n1, rfl⟩
  go_wp2
  go_ret
  exact ⟨rfl, _, rfl⟩
theorem resid_int {w : World} {B : Nat} {v : Value} {p g : Int} (h : Fd w B v p g) (x : Int) (h0 : -9223372036854775808 ≤ x) (h1 : x ≤ 9223372036854775807) :
    Calls Tryz.prog 64 #[v, .int .i64 x] w fun e w' => e = .returned (.int .u64 (x % p)) ∧ ∃ n, w' = w.drewN n := by
  have HS := Lib.hid (fun W => xsize_any x h0 h1 W)
  have HF := Lib.hid h
  obtain ⟨b, hv⟩ : ∃ b, v = .pointer (some ⟨b, 0, none⟩) := by
    obtain ⟨b, _, _, _, _, _, e, _⟩ := h
    exact ⟨b, e⟩
  subst hv
  clear h
  obtain ⟨y, hy⟩ : ∃ y, y = x.natAbs := ⟨_, rfl⟩
  rw [← hy] at HS
  rcases Int.lt_or_le x 0 with hx | hx
  · have t : decide (x < 0) = true := decide_eq_true hx
    have HN := Lib.hid (fun W hW => fnegx_fd (p := p) (g := g) (w := W) (B := B) (v := .pointer (some ⟨b, 0, none⟩)) hW (y : Int) (by omega) (by omega))
    have HE : Hid ((-(y : Int)) % p = x % p) := Lib.hid (by rw [show -(y : Int) = x by omega])
    clear hy
    go_enter Tryz.func64, Tryz.ntmps64
    go_wp2_with fail
    refine (HS.out _).mono ?_
    rintro e w1 ⟨rfl, rfl⟩
    go_wp2_with fail
    refine (HN.out _ HF.out).mono ?_
    rintro e w1 ⟨rfl, n1, rfl⟩
    rw [HE.out]
    go_wp2
    go_ret
    exact ⟨rfl, _, rfl⟩
  · have t : decide (x < 0) = false := decide_eq_false (by omega)
    have HN := Lib.hid (fun W hW => fadd_fd (p := p) (g := g) (w := W) (B := B) (v := .pointer (some ⟨b, 0, none⟩)) hW (y : Int) 0 (by omega) (by omega) (by omega) (by omega))
    have HE : Hid (((y : Int) + 0) % p = x % p) := Lib.hid (by rw [show (y : Int) + 0 = x by omega])
    clear hy
    go_enter Tryz.func64, Tryz.ntmps64
    go_wp2_with fail
    refine (HS.out _).mono ?_
    rintro e w1 ⟨rfl, rfl⟩
    go_wp2_with fail
    refine (HN.out _ HF.out).mono ?_
    rintro e w1 ⟨rfl, n1, rfl⟩
    rw [HE.out]
    go_wp2
    go_ret
    exact ⟨rfl, _, rfl⟩
theorem resid_uint64 {w : World} {B : Nat} {v : Value} {p g : Int} (h : Fd w B v p g) (x : Int) (h0 : 0 ≤ x) (h1 : x ≤ 18446744073709551615) :
    Calls Tryz.prog 82 #[v, .int .u64 x] w fun e w' => e = .returned (.int .u64 (x % p)) ∧ ∃ n, w' = w.drewN n := by
  have HF := Lib.hid h
  obtain ⟨b, hv⟩ : ∃ b, v = .pointer (some ⟨b, 0, none⟩) := by
    obtain ⟨b, _, _, _, _, _, e, _⟩ := h
    exact ⟨b, e⟩
  subst hv
  clear h
  have HN := Lib.hid (fun W hW => fadd_fd (p := p) (g := g) (w := W) (B := B) (v := .pointer (some ⟨b, 0, none⟩)) hW x 0 (by omega) (by omega) (by omega) (by omega))
  have HE : Hid ((x + 0) % p = x % p) := Lib.hid (by rw [Int.add_zero])
  go_enter Tryz.func82, Tryz.ntmps82
  go_wp2_with fail
  refine (HN.out _ HF.out).mono ?_
  rintro e w1 ⟨rfl, n1, rfl⟩
  rw [HE.out]
  go_wp2
  go_ret
  exact ⟨rfl, _, rfl⟩
set_option maxHeartbeats 1000000 in
set_option maxRecDepth 100000 in
theorem xrests_int {w : World} {v : Value} {p g : Int} (h : Fd w w.heap.size v p g) (A : Option Addr) (c : Nat) (L : List Int) (hl : L.length ≤ 4294967296) (hI : I64s L) (hR : RdI w w.heap.size .i64 A L) :
    Calls Tryz.prog 124 #[v, .slice A L.length c, (.func (.func 64) #[] #[])] w fun e w' => ∃ V, e = .returned V ∧ OwnU w' w.heap.size V L.length (resL p L) ∧ Below w.heap.size w w' := by
  obtain ⟨i0, hi, hz0, hz1, hz2⟩ := info_parts info_u64
  have HI := Lib.hid hI
  have HF := Lib.hid h
  clear hI h
  unfold resL
  go_enter Tryz.func124, Tryz.ntmps124
  go_wp2_with (at_make; refine wpList_make_full _ rfl _ _ 64 rfl w.heap.size 22 i0 (.int .u64 0) 1 Tryz.underlying64 hi hz0 hz1 _ _ _ _ L.length rfl rfl ?l1 ?l2 ?b2 ?b3 (Nat.le_refl _) ?_)
  case l1 => omega
  case l2 => omega
  case b2 => rw [hz2]; omega
  case b3 => unfold maxLen; omega
  intro w3 hown hgrow
  have hown0 : OwnU w3 w.heap.size (.slice (some ⟨w.heap.size, 0, none⟩) L.length L.length) L.length (part L.length (fun i => L.getD i 0 % p) 0) := by
    unfold OwnU
    rw [part_zero, ints_zero', ← toList_madeCells_one]; exact hown
  have hB3 : Below w.heap.size w w3 := (Below.refl _ _).grown hgrow (Nat.le_refl _) (fun k h => by cases h)
  obtain ⟨G, hG⟩ : ∃ G, G = w.heap.size := ⟨_, rfl⟩
  have hGb : w.heap.size ≤ G := by omega
  have HO0 : Hid (OwnU w3 w.heap.size (.slice (some ⟨G, 0, none⟩) L.length L.length) L.length (part L.length (fun i => L.getD i 0 % p) 0)) := Lib.hid (by rw [hG]; exact hown0)
  have HG := Lib.hid hG
  clear hown hgrow hG hown0
  go_wp2
  rw [← HG.out]
  go_loopw [15] (fun I wr => ∃ k : Nat, I = .int .i64 k ∧ k ≤ L.length ∧ OwnU wr w.heap.size (.slice (some ⟨G, 0, none⟩) L.length L.length) L.length (part L.length (fun i => L.getD i 0 % p) k) ∧ Below w.heap.size w wr) (fun I _ => L.length - (intOf I).toNat)
  case atStart => exact ⟨0, rfl, by omega, HO0.out, hB3⟩
  case round =>
    clear HO0 hB3
    obtain ⟨k, rfl, hk, hown, hB⟩ := hrel
    by_cases hlt : k < L.length
    · obtain ⟨b, o', rfl, hbl, hcell⟩ := hR (by omega)
      have d := cell_keep hB hbl (hcell k hlt)
      have hu := HI.out (L.getD k 0) (by rw [List.getD_eq_getElem?_getD, List.getElem?_eq_getElem hlt]; exact List.getElem_mem hlt)
      obtain ⟨x, hx⟩ : ∃ x, x = L.getD k 0 := ⟨_, rfl⟩
      rw [← hx] at d hu
      have HX := Lib.hid hx
      have hTm := Lib.hid (resid_int (HF.out.below hB) x hu.1 hu.2)
      have HO := Lib.hid hown
      clear hx hcell hR hown
      go_wp2_with fail
      refine hTm.out.mono ?_
      rintro e w4 ⟨rfl, n3, hw4⟩
      have hB4 : Below w.heap.size w w4 := by rw [hw4]; exact below_drewN hB _
      have hO4 : OwnU w4 w.heap.size (.slice (some ⟨G, 0, none⟩) L.length L.length) L.length (part L.length (fun i => L.getD i 0 % p) k) := by rw [hw4]; exact HO.out.drewN _
      obtain ⟨hset, hce, hfr, _⟩ := hO4.set k hlt (x % p)
      have hps : (part L.length (fun i => L.getD i 0 % p) k).set k (x % p) = part L.length (fun i => L.getD i 0 % p) (k + 1) := by rw [HX.out]; exact part_step
      rw [hps] at hset
      have HS := Lib.hid hset
      obtain ⟨y, hy⟩ : ∃ y, y = x % p := ⟨_, rfl⟩
      rw [← hy] at HS ⊢
      clear hw4 hO4 hps hset d hB hy
      go_wp2
      go_roundw
      case rel => exact ⟨k + 1, by go_num, by omega, HS.out, hB4.setCell hGb _⟩
      case measure => simp [intOf]; omega
    · obtain rfl : k = L.length := by omega
      rw [part_full] at hown
      have HO := Lib.hid hown
      clear hown
      go_wp2
      go_ret
      exact ⟨_, rfl, HO.out, hB⟩
set_option maxHeartbeats 1000000 in
set_option maxRecDepth 100000 in
theorem xrests_uint64 {w : World} {v : Value} {p g : Int} (h : Fd w w.heap.size v p g) (A : Option Addr) (c : Nat) (L : List Int) (hl : L.length ≤ 4294967296) (hI : U64s L) (hR : RdI w w.heap.size .u64 A L) :
    Calls Tryz.prog 133 #[v, .slice A L.length c, (.func (.func 82) #[] #[])] w fun e w' => ∃ V, e = .returned V ∧ OwnU w' w.heap.size V L.length (resL p L) ∧ Below w.heap.size w w' := by
  obtain ⟨i0, hi, hz0, hz1, hz2⟩ := info_parts info_u64
  have HI := Lib.hid hI
  have HF := Lib.hid h
  clear hI h
  unfold resL
  go_enter Tryz.func133, Tryz.ntmps133
  go_wp2_with (at_make; refine wpList_make_full _ rfl _ _ 64 rfl w.heap.size 22 i0 (.int .u64 0) 1 Tryz.underlying64 hi hz0 hz1 _ _ _ _ L.length rfl rfl ?l1 ?l2 ?b2 ?b3 (Nat.le_refl _) ?_)
  case l1 => omega
  case l2 => omega
  case b2 => rw [hz2]; omega
  case b3 => unfold maxLen; omega
  intro w3 hown hgrow
  have hown0 : OwnU w3 w.heap.size (.slice (some ⟨w.heap.size, 0, none⟩) L.length L.length) L.length (part L.length (fun i => L.getD i 0 % p) 0) := by
    unfold OwnU
    rw [part_zero, ints_zero', ← toList_madeCells_one]; exact hown
  have hB3 : Below w.heap.size w w3 := (Below.refl _ _).grown hgrow (Nat.le_refl _) (fun k h => by cases h)
  obtain ⟨G, hG⟩ : ∃ G, G = w.heap.size := ⟨_, rfl⟩
  have hGb : w.heap.size ≤ G := by omega
  have HO0 : Hid (OwnU w3 w.heap.size (.slice (some ⟨G, 0, none⟩) L.length L.length) L.length (part L.length (fun i => L.getD i 0 % p) 0)) := Lib.hid (by rw [hG]; exact hown0)
  have HG := Lib.hid hG
  clear hown hgrow hG hown0
  go_wp2
  rw [← HG.out]
  go_loopw [15] (fun I wr => ∃ k : Nat, I = .int .i64 k ∧ k ≤ L.length ∧ OwnU wr w.heap.size (.slice (some ⟨G, 0, none⟩) L.length L.length) L.length (part L.length (fun i => L.getD i 0 % p) k) ∧ Below w.heap.size w wr) (fun I _ => L.length - (intOf I).toNat)
  case atStart => exact ⟨0, rfl, by omega, HO0.out, hB3⟩
  case round =>
    clear HO0 hB3
    obtain ⟨k, rfl, hk, hown, hB⟩ := hrel
    by_cases hlt : k < L.length
    · obtain ⟨b, o', rfl, hbl, hcell⟩ := hR (by omega)
      have d := cell_keep hB hbl (hcell k hlt)
      have hu := HI.out (L.getD k 0) (by rw [List.getD_eq_getElem?_getD, List.getElem?_eq_getElem hlt]; exact List.getElem_mem hlt)
      obtain ⟨x, hx⟩ : ∃ x, x = L.getD k 0 := ⟨_, rfl⟩
      rw [← hx] at d hu
      have HX := Lib.hid hx
      have hTm := Lib.hid (resid_uint64 (HF.out.below hB) x hu.1 hu.2)
      have HO := Lib.hid hown
      clear hx hcell hR hown
      go_wp2_with fail
      refine hTm.out.mono ?_
      rintro e w4 ⟨rfl, n3, hw4⟩
      have hB4 : Below w.heap.size w w4 := by rw [hw4]; exact below_drewN hB _
      have hO4 : OwnU w4 w.heap.size (.slice (some ⟨G, 0, none⟩) L.length L.length) L.length (part L.length (fun i => L.getD i 0 % p) k) := by rw [hw4]; exact HO.out.drewN _
      obtain ⟨hset, hce, hfr, _⟩ := hO4.set k hlt (x % p)
      have hps : (part L.length (fun i => L.getD i 0 % p) k).set k (x % p) = part L.length (fun i => L.getD i 0 % p) (k + 1) := by rw [HX.out]; exact part_step
      rw [hps] at hset
      have HS := Lib.hid hset
      obtain ⟨y, hy⟩ : ∃ y, y = x % p := ⟨_, rfl⟩
      rw [← hy] at HS ⊢
      clear hw4 hO4 hps hset d hB hy
      go_wp2
      go_roundw
      case rel => exact ⟨k + 1, by go_num, by omega, HS.out, hB4.setCell hGb _⟩
      case measure => simp [intOf]; omega
    · obtain rfl : k = L.length := by omega
      rw [part_full] at hown
      have HO := Lib.hid hown
      clear hown
      go_wp2
      go_ret
      exact ⟨_, rfl, HO.out, hB⟩
theorem linf_of {p : Int} {L M : List Int} (l1 : 0 < L.length) (l2 : 0 < M.length) (l3 : (L.length : Int) + (M.length : Int) - 1 ≤ 1024) (h4 : fitR (pd ((L.length : Int) + (M.length : Int) - 1)) p = true) (h5 : goodB p L = true) (h6 : goodB p M = true) : linf p L M = 0 := by
  unfold linf
  rw [if_neg (by omega), if_neg (by omega), if_neg (by simp [h4]), if_neg (by simp [h5, h6])]
/-- A row of n numbers at a block's head. -/
def PO (W : World) (G n : Nat) (F : Nat → Int) : Prop := G < W.heap.size ∧ ∀ k, k < n → W.cell? ⟨G, k, none⟩ = some (.int .u64 (F k))
theorem PO.keep {W W' : World} {G n : Nat} {F : Nat → Int} (h : PO W G n F) (hB : Below W.heap.size W W') : PO W' G n F :=
  ⟨Nat.lt_of_lt_of_le h.1 hB.size, fun k hk => cell_keep hB h.1 (h.2 k hk)⟩
theorem lin_res {m : Nat} {g : Int} {W : World} {vi : Value} {L M : List Int} (hC : Cert (m : Int) g) (h : Fd W W.heap.size vi (m : Int) g) {V1 V2 : Value} {B1 B2 : Nat} (h1 : OwnU W B1 V1 L.length (resL m L)) (h2 : OwnU W B2 V2 M.length (resL m M))
    (l1 : 0 < L.length) (l2 : 0 < M.length) (l3 : (L.length : Int) + (M.length : Int) - 1 ≤ 1024) (hf : fitR (pd ((L.length : Int) + (M.length : Int) - 1)) (m : Int) = true) :
    Calls Tryz.prog 123 #[vi, V1, V2] W fun r w' => ∃ G, r = .returned (.tuple #[.slice (some ⟨G, 0, none⟩) (L.length + M.length - 1 : Nat) (L.length + M.length - 1 : Nat), .int .i64 0]) ∧ W.heap.size ≤ G ∧
      PO w' G (L.length + M.length - 1) (fun k => cI L M k % (m : Int)) ∧ Below W.heap.size W w' := by
  have hm3 := h.p3
  have hmx := h.pmx
  haveI : NeZero m := ⟨by omega⟩
  have hN : Prime m ∧ ∀ [NeZero m], Ord (zt m g) (m - 1) := hC.prime
  have hp := hN.1
  have ho' : Ord (zt m g) (m - 1) := hN.2
  obtain ⟨A, cA, rfl, hA⟩ := h1.rd
  obtain ⟨B, cB, rfl, hB⟩ := h2.rd
  have hl := lin_yes hp ho' (by have := hC.gr; omega) hC.gr.2 h A B cA cB (resL m L) (resL m M) (resL_u64 (by omega) (by omega) L) (resL_u64 (by omega) (by omega) M) hA hB
    (linf_of (by rw [resL_length]; exact l1) (by rw [resL_length]; exact l2) (by rw [resL_length, resL_length]; exact l3) (by rw [resL_length, resL_length]; exact hf) (resL_good (by omega) L) (resL_good (by omega) M))
  simp only [resL_length] at hl
  refine hl.mono ?_
  rintro e w' ⟨G, rfl, hG1, hG2, hc, hBl⟩
  exact ⟨G, rfl, hG1, ⟨hG2, fun k hk => by rw [hc k hk, lcv_cI]⟩, hBl⟩
def psl (Gf : Nat → Nat) (n i j : Nat) : Value := if j < i then .slice (some ⟨Gf j, 0, none⟩) n n else .slice none 0 0
/-- The three parts' slices. -/
def prow (Gf : Nat → Nat) (n i : Nat) : Array Value := #[psl Gf n i 0, psl Gf n i 1, psl Gf n i 2]
theorem prow_zero (Gf : Nat → Nat) (n : Nat) : prow Gf n 0 = #[.slice none 0 0, .slice none 0 0, .slice none 0 0] := rfl
theorem prow_get (Gf : Nat → Nat) (n i j : Nat) (hj : j < 3) : (prow Gf n i)[j]? = some (psl Gf n i j) := by
  match j, hj with
  | 0, _ => rfl
  | 1, _ => rfl
  | 2, _ => rfl
theorem prow_set (Gf : Nat → Nat) (n i g : Nat) (hi : i < 3) : (prow Gf n i).setIfInBounds i (.slice (some ⟨g, 0, none⟩) n n) = prow (fun j => if j = i then g else Gf j) n (i + 1) := by
  match i, hi with
  | 0, _ => rfl
  | 1, _ => rfl
  | 2, _ => rfl
theorem info_p3 : (Tryz.prog.info? 178).map (fun i => (i.zero, i.size)) = some (some (.agg #[.slice none 0 0, .slice none 0 0, .slice none 0 0]), 3) := by kernel_rfl
theorem info_th : (Tryz.prog.info? 69).map (fun i => (i.zero, i.size, i.bytes)) = some (some (.agg (three 0)), 3, 24) := by kernel_rfl
theorem size_setCells {G : Nat} : ∀ (vs : List Value) (o : Nat) (w : World), (w.setCells G o vs).heap.size = w.heap.size := by
  intro vs
  induction vs with
  | nil => intro o w; rfl
  | cons v r ih => intro o w; exact (ih (o + 1) _).trans (by simp)
theorem cell_setCells_other {G : Nat} {a : Addr} (hne : a.block ≠ G) : ∀ {vs : List Value} {o : Nat} {w : World}, (w.setCells G o vs).cell? a = w.cell? a := by
  intro vs
  induction vs with
  | nil => intro o w; rfl
  | cons v r ih => intro o w; exact (ih (o := o + 1)).trans (World.cell?_setCell_far _ _ _ _ (fun e => hne e.symm))
end Go.Proofs.YtemoginoanhjlaaGreat
end

section
/- exact.join (uint64). -/
set_option linter.unusedVariables false
set_option linter.unusedSimpArgs false
namespace Go.Proofs.YtemoginoanhjlaaGreat
open Go.RowKit
open Alg
set_option maxHeartbeats 4000000 in
set_option maxRecDepth 100000 in
theorem xjoin_uint64 {w : World} {v : Value} {p q r : Nat} (h : TrioP w w.heap.size v p q r) (hT : Tri p q r) (A B : Option Addr) (cA cB : Nat) (L M : List Int) (hI : U64s L) (hI' : U64s M) (hA : RdI w w.heap.size .u64 A L) (hB : RdI w w.heap.size .u64 B M)
    (l1 : 0 < L.length) (l2 : 0 < M.length) (l3 : (L.length : Int) + (M.length : Int) - 1 ≤ 1024) (hf : ∀ i, i < 3 → fitR (pd ((L.length : Int) + (M.length : Int) - 1)) ((pk p q r i : Nat) : Int) = true) :
    Calls Tryz.prog 81 #[v, .slice A L.length cA, .slice B M.length cB, (.func (.func 82) #[] #[])] w fun e w' => ∃ G, e = .returned (.slice (some ⟨G, 0, none⟩) (L.length + M.length - 1 : Nat) (L.length + M.length - 1 : Nat)) ∧ w.heap.size ≤ G ∧
      R3 w' G (L.length + M.length - 1) (fun k => (cI L M k % ((p * q * r : Nat) : Int)).toNat) ∧ Below w.heap.size w w' := by
  have hz := (zero_of_info info_p3).1
  obtain ⟨i3, hi3, hz0, hz1, hz2⟩ := info_parts info_th
  have HT := Lib.hid h
  obtain ⟨gv, hv⟩ : ∃ gv, v = .pointer (some ⟨gv, 0, none⟩) := by
    obtain ⟨G, _, _, _, _, _, _, _, _, e, _⟩ := h
    exact ⟨G, e⟩
  have HR1 : Hid (∀ W vi g m, Below w.heap.size w W → Fd W W.heap.size vi m g → Calls Tryz.prog 133 #[vi, .slice A L.length cA, (.func (.func 82) #[] #[])] W fun e w' => ∃ V, e = .returned V ∧ OwnU w' W.heap.size V L.length (resL m L) ∧ Below W.heap.size W w') := Lib.hid (fun W vi g m hW hF => xrests_uint64 hF A cA L (by omega) hI ((hA.below hW).mono hW.size))
  have HR2 : Hid (∀ W vi g m, Below w.heap.size w W → Fd W W.heap.size vi m g → Calls Tryz.prog 133 #[vi, .slice B M.length cB, (.func (.func 82) #[] #[])] W fun e w' => ∃ V, e = .returned V ∧ OwnU w' W.heap.size V M.length (resL m M) ∧ Below W.heap.size W w') := Lib.hid (fun W vi g m hW hF => xrests_uint64 hF B cB M (by omega) hI' ((hB.below hW).mono hW.size))
  have HFl : Hid (∀ W i, i < 3 → TrioP W W.heap.size v p q r → Calls Tryz.prog 121 #[v, .int .i64 ((i : Nat) : Int)] W fun e w' => (∃ vi gi, e = .returned vi ∧ Fd W W.heap.size vi ((pk p q r i : Nat) : Int) gi ∧ Cert ((pk p q r i : Nat) : Int) gi) ∧ W = w') := Lib.hid (fun W i hi h => tfield_cert h i hi)
  have HLn : Hid (∀ i, i < 3 → ∀ W vi g V1 V2 B1 B2, Cert ((pk p q r i : Nat) : Int) g → Fd W W.heap.size vi ((pk p q r i : Nat) : Int) g → OwnU W B1 V1 L.length (resL ((pk p q r i : Nat) : Int) L) → OwnU W B2 V2 M.length (resL ((pk p q r i : Nat) : Int) M) → Calls Tryz.prog 123 #[vi, V1, V2] W fun e w' => ∃ G, e = .returned (.tuple #[.slice (some ⟨G, 0, none⟩) (L.length + M.length - 1 : Nat) (L.length + M.length - 1 : Nat), .int .i64 0]) ∧ W.heap.size ≤ G ∧
      PO w' G (L.length + M.length - 1) (fun k => cI L M k % ((pk p q r i : Nat) : Int)) ∧ Below W.heap.size W w') := Lib.hid (fun i hi W vi g V1 V2 B1 B2 hC hF h1 h2 => lin_res hC hF h1 h2 l1 l2 l3 (hf i hi))
  have HJn : Hid (∀ (k x0 x1 x2 : Nat), (x0 : Int) = cI L M k % (p : Int) → (x1 : Int) = cI L M k % (q : Int) → (x2 : Int) = cI L M k % (r : Int) → ∀ W, TrioP W W.heap.size v p q r → Calls Tryz.prog 125 #[v, .agg (three (w3n x0 x1 x2))] W fun e w' => e = .returned (.agg (three ((cI L M k % ((p * q * r : Nat) : Int)).toNat))) ∧ Below W.heap.size W w') := Lib.hid (fun k x0 x1 x2 e0 e1 e2 W hW => by
    have hp3 := hT.p3
    have hq3 := hT.q3
    have hr3 := hT.r3
    have hpm := hT.pm
    have hqm := hT.qm
    have hrm := hT.rm
    have a0 := Int.emod_lt_of_pos (cI L M k) (show (0 : Int) < (p : Int) by omega)
    have a1 := Int.emod_lt_of_pos (cI L M k) (show (0 : Int) < (q : Int) by omega)
    have a2 := Int.emod_lt_of_pos (cI L M k) (show (0 : Int) < (r : Int) by omega)
    refine (tjoin_yes hW hT x0 x1 x2 (by omega) (by omega) (by omega)).mono ?_
    rintro e w' ⟨j, rfl, hj, j1, j2, j3, hB⟩
    have hm : ∀ (m x : Nat), (x : Int) = cI L M k % (m : Int) → j % m = x % m → (j : Int) % (m : Int) = cI L M k % (m : Int) := fun m x hx h => by
      rw [← Int.natCast_emod, h, Int.natCast_emod, hx, Int.emod_emod_of_dvd _ (Int.dvd_refl _)]
    exact ⟨by rw [join_is hT hj (hm p x0 e0 j1) (hm q x1 e1 j2) (hm r x2 e2 j3)], hB⟩)
  have hln : ∃ n, n = L.length + M.length - 1 := ⟨_, rfl⟩
  obtain ⟨n, hn⟩ := hln
  rw [← hn] at HLn ⊢
  have hnI : (L.length : Int) + (M.length : Int) - 1 = (n : Int) := by omega
  have hn0 : n ≤ 1024 := by omega
  have HPk : Hid (∀ i, i < 3 → ∀ k, 0 ≤ cI L M k % ((pk p q r i : Nat) : Int)) := Lib.hid (fun i hi k => Int.emod_nonneg _ (by
    have hp3 := hT.p3
    have hq3 := hT.q3
    have hr3 := hT.r3
    unfold pk; split <;> (try split) <;> omega))
  obtain ⟨X, hX⟩ : ∃ X, X = fun k => (cI L M k % ((p * q * r : Nat) : Int)).toNat := ⟨_, rfl⟩
  have HXe : Hid (∀ k, X k = (cI L M k % ((p * q * r : Nat) : Int)).toNat) := Lib.hid (fun k => by rw [hX])
  rw [← hX]
  clear hn hA hB hf h hI hI' hX l1 l2
  have R0 := Lib.hid (lay1 w 178 (prow (fun _ => 0) n 0))
  rw [prow_zero] at R0
  subst hv
  go_enter Tryz.func81, Tryz.ntmps81
  go_wp2_with fail
  have Q0 : Hid (RowAt (w.alloc (.cells #[.slice none 0 0, .slice none 0 0, .slice none 0 0] 178)) w.heap.size 178 (prow (fun _ => 0) n 0) ∧ (∀ j, j < 0 → w.heap.size < (fun _ => 0) j ∧ PO (w.alloc (.cells #[.slice none 0 0, .slice none 0 0, .slice none 0 0] 178)) ((fun _ => 0) j) n (fun k => cI L M k % ((pk p q r j : Nat) : Int))) ∧ Below w.heap.size w (w.alloc (.cells #[.slice none 0 0, .slice none 0 0, .slice none 0 0] 178))) := Lib.hid ⟨R0.out.1, fun j hj => by omega, R0.out.2⟩
  generalize (w.alloc (.cells #[.slice none 0 0, .slice none 0 0, .slice none 0 0] 178)) = w1 at *
  go_loopw [14] (fun I wr => ∃ (i : Nat) (Gf : Nat → Nat), I = .int .i64 i ∧ i ≤ 3 ∧ Hid (RowAt wr w.heap.size 178 (prow Gf n i) ∧ (∀ j, j < i → w.heap.size < Gf j ∧ PO wr (Gf j) n (fun k => cI L M k % ((pk p q r j : Nat) : Int))) ∧ Below w.heap.size w wr)) (fun I _ => 3 - (intOf I).toNat)
  case atStart => exact ⟨0, fun _ => 0, rfl, by omega, Q0⟩
  case round =>
    clear Q0 R0
    obtain ⟨i, Gf, rfl, hi, Q⟩ := hrel
    by_cases hlt : i < 3
    · have f0 : (0 : Int) ≤ (i : Int) := by omega
      have f1 : (i : Int) < 3 := by omega
      have HB0 := Lib.hid Q.out.2.2
      go_wp2_with fail
      refine (HFl.out _ i hlt ((HT.out.below HB0.out).mono HB0.out.size)).mono ?_
      rintro e w2 ⟨⟨vi, gi, rfl, hFd, hC⟩, rfl⟩
      have HFd := Lib.hid hFd
      have HC := Lib.hid hC
      clear hFd hC
      go_wp2_with fail
      refine (HR1.out _ _ _ _ HB0.out HFd.out).mono ?_
      rintro e w3 ⟨V1, rfl, hO1, hB1⟩
      have HO1 := Lib.hid hO1
      have HF3 := Lib.hid ((HFd.out.below hB1).mono hB1.size)
      have HB3 := Lib.hid (HB0.out.trans (hB1.mono HB0.out.size))
      have HY1 := Lib.hid hB1
      clear hO1 hB1
      go_wp2_with fail
      refine (HR2.out _ _ _ _ HB3.out HF3.out).mono ?_
      rintro e w4 ⟨V2, rfl, hO2, hB2⟩
      have HO2 := Lib.hid hO2
      have HO3 := Lib.hid (HO1.out.below hB2)
      have HF4 := Lib.hid ((HF3.out.below hB2).mono hB2.size)
      have HB4 := Lib.hid (HB3.out.trans (hB2.mono HB3.out.size))
      have HY2 := Lib.hid (HY1.out.trans (hB2.mono HY1.out.size))
      clear hO2 hB2
      go_wp2_with fail
      refine (HLn.out i hlt _ _ _ _ _ _ _ HC.out HF4.out HO3.out HO2.out).mono ?_
      rintro e w5 ⟨G', rfl, hG1, hPO, hB5⟩
      have HY5 := Lib.hid (HY2.out.trans (hB5.mono HY2.out.size))
      have HB5 := Lib.hid (HB4.out.trans (hB5.mono HB4.out.size))
      have HRow := Lib.hid (Q.out.1.keep HY5.out)
      have hrl := Q.out.1.lt
      have hGw : w.heap.size < G' := by have := HY2.out.size; omega
      have e0 := HRow.out.cell (prow_get Gf n i i hlt)
      have e1 := HRow.out.frozen i
      have hself : psl Gf n i i = .slice none 0 0 := if_neg (by omega)
      rw [hself] at e0
      have Q5 : Hid (RowAt (w5.setCell ⟨w.heap.size, i, none⟩ (.slice (some ⟨G', 0, none⟩) n n)) w.heap.size 178 (prow (fun j => if j = i then G' else Gf j) n (i + 1)) ∧ (∀ j, j < (i + 1) → w.heap.size < (fun j => if j = i then G' else Gf j) j ∧ PO (w5.setCell ⟨w.heap.size, i, none⟩ (.slice (some ⟨G', 0, none⟩) n n)) ((fun j => if j = i then G' else Gf j) j) n (fun k => cI L M k % ((pk p q r j : Nat) : Int))) ∧ Below w.heap.size w (w5.setCell ⟨w.heap.size, i, none⟩ (.slice (some ⟨G', 0, none⟩) n n))) := Lib.hid ⟨prow_set Gf n i G' hlt ▸ HRow.out.set i _, fun j hj => (by
        by_cases hji : j = i
        · subst hji
          simp only [if_pos]
          exact ⟨hGw, by simpa using hPO.1, fun k hk => by rw [World.cell?_setCell_far _ _ _ _ (by simp; omega)]; exact hPO.2 k hk⟩
        · simp only [if_neg hji]
          obtain ⟨h1, h2⟩ := Q.out.2.1 j (by omega)
          have h3 := h2.keep HY5.out
          exact ⟨h1, by simpa using h3.1, fun k hk => by rw [World.cell?_setCell_far _ _ _ _ (by simp; omega)]; exact h3.2 k hk⟩), below_setCell HB5.out (Nat.le_refl _) _ _⟩
      clear Q hPO hB5 HY5 hself
      go_wp2
      go_roundw
      case rel => exact ⟨i + 1, _, by go_num, by omega, Q5⟩
      case measure => simp [intOf]; omega
    · obtain rfl : i = 3 := by omega
      have hrl := Q.out.1.lt
      have hbs := Q.out.2.2.size
      go_wp2_with (at_make; refine wpList_make_full _ rfl _ _ 61 rfl w.heap.size 69 i3 (.agg (three 0)) 3 Tryz.underlying61 hi3 hz0 hz1 _ _ _ _ n rfl rfl ?l1 ?l2 ?b2 ?b3 hbs ?_)
      case l1 => omega
      case l2 => omega
      case b2 => rw [hz2]; omega
      case b3 => unfold maxLen; omega
      intro w3 hown hgrow
      have hR3 := R3.new hown
      have hBw : Below wr.heap.size wr w3 := (Below.refl _ _).grown hgrow (Nat.le_refl _) (fun k h => by cases h)
      obtain ⟨G, hG⟩ : ∃ G, G = wr.heap.size := ⟨_, rfl⟩
      rw [← hG] at hR3
      have hGw : w.heap.size < G := by omega
      have Q3 : Hid (RowAt w3 w.heap.size 178 (prow Gf n 3) ∧ (∀ j, j < 3 → Gf j < G ∧ PO w3 (Gf j) n (fun k => cI L M k % ((pk p q r j : Nat) : Int))) ∧ R3 w3 G n (fun i => if i < 0 then X i else 0) ∧ Below w.heap.size w w3) := Lib.hid ⟨Q.out.1.keep hBw, fun j hj => ⟨by rw [hG]; exact (Q.out.2.1 j hj).2.1, (Q.out.2.1 j hj).2.keep hBw⟩, hR3.congr (fun i _ => by rw [if_neg (by omega)]), Q.out.2.2.trans (hBw.mono hbs)⟩
      have HG := Lib.hid hG
      clear hown hgrow hR3 hBw Q hG hrl hbs
      go_wp2
      rw [← HG.out]
      have KP : Hid (∀ W W' k, (RowAt W w.heap.size 178 (prow Gf n 3) ∧ (∀ j, j < 3 → Gf j < G ∧ PO W (Gf j) n (fun k => cI L M k % ((pk p q r j : Nat) : Int))) ∧ R3 W G n (fun i => if i < k then X i else 0) ∧ Below w.heap.size w W) → Below W.heap.size W W' → (RowAt W' w.heap.size 178 (prow Gf n 3) ∧ (∀ j, j < 3 → Gf j < G ∧ PO W' (Gf j) n (fun k => cI L M k % ((pk p q r j : Nat) : Int))) ∧ R3 W' G n (fun i => if i < k then X i else 0) ∧ Below w.heap.size w W')) := Lib.hid (fun W W' k h hB => ⟨h.1.keep hB, fun j hj => ⟨(h.2.1 j hj).1, (h.2.1 j hj).2.keep hB⟩, h.2.2.1.keep hB, h.2.2.2.trans (hB.mono h.2.2.2.size)⟩)
      go_loopw [45] (fun I wr => ∃ k : Nat, I = .int .i64 k ∧ k ≤ n ∧ Hid (RowAt wr w.heap.size 178 (prow Gf n 3) ∧ (∀ j, j < 3 → Gf j < G ∧ PO wr (Gf j) n (fun k => cI L M k % ((pk p q r j : Nat) : Int))) ∧ R3 wr G n (fun i => if i < k then X i else 0) ∧ Below w.heap.size w wr)) (fun I _ => n - (intOf I).toNat)
      case atStart => exact ⟨0, rfl, by omega, Q3⟩
      case round =>
        clear Q3
        obtain ⟨k, rfl, hk, Q⟩ := hrel
        by_cases hlt : k < n
        · have f0 : (0 : Int) ≤ (k : Int) := by omega
          have f1 : (k : Int) < (n : Int) := by omega
          obtain ⟨x0, hx0⟩ : ∃ x : Nat, (x : Int) = cI L M k % ((pk p q r 0 : Nat) : Int) := ⟨_, Int.toNat_of_nonneg (HPk.out 0 (by omega) k)⟩
          obtain ⟨x1, hx1⟩ : ∃ x : Nat, (x : Int) = cI L M k % ((pk p q r 1 : Nat) : Int) := ⟨_, Int.toNat_of_nonneg (HPk.out 1 (by omega) k)⟩
          obtain ⟨x2, hx2⟩ : ∃ x : Nat, (x : Int) = cI L M k % ((pk p q r 2 : Nat) : Int) := ⟨_, Int.toNat_of_nonneg (HPk.out 2 (by omega) k)⟩
          have HJ := Lib.hid (HJn.out k x0 x1 x2 hx0 hx1 hx2)
          rw [← HXe.out k] at HJ
          have hbl : x0 < 18446744073709551616 ∧ x1 < 18446744073709551616 ∧ x2 < 18446744073709551616 := by
            have hp3 := hT.p3
            have hq3 := hT.q3
            have hr3 := hT.r3
            have hpm := hT.pm
            have hqm := hT.qm
            have hrm := hT.rm
            have a0 := Int.emod_lt_of_pos (cI L M k) (show (0 : Int) < (p : Int) by omega)
            have a1 := Int.emod_lt_of_pos (cI L M k) (show (0 : Int) < (q : Int) by omega)
            have a2 := Int.emod_lt_of_pos (cI L M k) (show (0 : Int) < (r : Int) by omega)
            have b0 : (x0 : Int) = cI L M k % (p : Int) := hx0
            have b1 : (x1 : Int) = cI L M k % (q : Int) := hx1
            have b2 : (x2 : Int) = cI L M k % (r : Int) := hx2
            omega
          rw [three_w3n hbl.1 hbl.2.1 hbl.2.2] at HJ
          have HSl : Hid (∀ W, (RowAt W w.heap.size 178 (prow Gf n 3) ∧ (∀ j, j < 3 → Gf j < G ∧ PO W (Gf j) n (fun k => cI L M k % ((pk p q r j : Nat) : Int))) ∧ R3 W G n (fun i => if i < k then X i else 0) ∧ Below w.heap.size w W) → W.cell? ⟨w.heap.size, 0, none⟩ = some (.slice (some ⟨Gf 0, 0, none⟩) n n) ∧ W.cell? ⟨w.heap.size, 1, none⟩ = some (.slice (some ⟨Gf 1, 0, none⟩) n n) ∧ W.cell? ⟨w.heap.size, 2, none⟩ = some (.slice (some ⟨Gf 2, 0, none⟩) n n) ∧ W.cell? ⟨Gf 0, k, none⟩ = some (.int .u64 (x0 : Int)) ∧ W.cell? ⟨Gf 1, k, none⟩ = some (.int .u64 (x1 : Int)) ∧ W.cell? ⟨Gf 2, k, none⟩ = some (.int .u64 (x2 : Int))) := Lib.hid (fun W h => ⟨h.1.cell (prow_get Gf n 3 0 (by omega)), h.1.cell (prow_get Gf n 3 1 (by omega)), h.1.cell (prow_get Gf n 3 2 (by omega)), by rw [hx0]; exact (h.2.1 0 (by omega)).2.2 k hlt, by rw [hx1]; exact (h.2.1 1 (by omega)).2.2 k hlt, by rw [hx2]; exact (h.2.1 2 (by omega)).2.2 k hlt⟩)
          have KS : Hid (∀ W, (RowAt W w.heap.size 178 (prow Gf n 3) ∧ (∀ j, j < 3 → Gf j < G ∧ PO W (Gf j) n (fun k => cI L M k % ((pk p q r j : Nat) : Int))) ∧ R3 W G n (fun i => if i < k then X i else 0) ∧ Below w.heap.size w W) → (RowAt (W.setCells G (k * 3) (three (X k)).toList) w.heap.size 178 (prow Gf n 3) ∧ (∀ j, j < 3 → Gf j < G ∧ PO (W.setCells G (k * 3) (three (X k)).toList) (Gf j) n (fun k => cI L M k % ((pk p q r j : Nat) : Int))) ∧ R3 (W.setCells G (k * 3) (three (X k)).toList) G n (fun i => if i < (k + 1) then X i else 0) ∧ Below w.heap.size w (W.setCells G (k * 3) (three (X k)).toList))) := Lib.hid (fun W h => ⟨h.1.setCellsOther (by omega) _ _ _, fun j hj => ⟨(h.2.1 j hj).1, by rw [size_setCells]; exact (h.2.1 j hj).2.1, fun i hi => by rw [cell_setCells_other (by have := (h.2.1 j hj).1; simp; omega)]; exact (h.2.1 j hj).2.2 i hi⟩, (h.2.2.1.set k hlt (X k)).congr (fun i _ => by
            by_cases hik : i = k
            · subst hik; rw [if_pos rfl, if_pos (by omega)]
            · rw [if_neg hik]
              by_cases h2 : i < k
              · rw [if_pos h2, if_pos (by omega)]
              · rw [if_neg h2, if_neg (by omega)]), below_setCells (by omega) _ _ _ h.2.2.2⟩)
          have KSr : Hid (∀ W, (RowAt W w.heap.size 178 (prow Gf n 3) ∧ (∀ j, j < 3 → Gf j < G ∧ PO W (Gf j) n (fun k => cI L M k % ((pk p q r j : Nat) : Int))) ∧ R3 W G n (fun i => if i < (k + 1) then X i else 0) ∧ Below w.heap.size w W) → (W.cell? ⟨w.heap.size, 0, none⟩ = some (.slice (some ⟨Gf 0, 0, none⟩) n n) ∧ W.cell? ⟨w.heap.size, 1, none⟩ = some (.slice (some ⟨Gf 1, 0, none⟩) n n) ∧ W.cell? ⟨w.heap.size, 2, none⟩ = some (.slice (some ⟨Gf 2, 0, none⟩) n n) ∧ W.cell? ⟨Gf 0, k, none⟩ = some (.int .u64 (x0 : Int)) ∧ W.cell? ⟨Gf 1, k, none⟩ = some (.int .u64 (x1 : Int)) ∧ W.cell? ⟨Gf 2, k, none⟩ = some (.int .u64 (x2 : Int)))) := Lib.hid (fun W h => ⟨h.1.cell (prow_get Gf n 3 0 (by omega)), h.1.cell (prow_get Gf n 3 1 (by omega)), h.1.cell (prow_get Gf n 3 2 (by omega)), by rw [hx0]; exact (h.2.1 0 (by omega)).2.2 k hlt, by rw [hx1]; exact (h.2.1 1 (by omega)).2.2 k hlt, by rw [hx2]; exact (h.2.1 2 (by omega)).2.2 k hlt⟩)
          have z0 : Hid (RowAt (wr.drewN 1) w.heap.size 178 (prow Gf n 3) ∧ (∀ j, j < 3 → Gf j < G ∧ PO (wr.drewN 1) (Gf j) n (fun k => cI L M k % ((pk p q r j : Nat) : Int))) ∧ R3 (wr.drewN 1) G n (fun i => if i < k then X i else 0) ∧ Below w.heap.size w (wr.drewN 1)) := Lib.hid (KP.out _ _ _ Q.out (below_drewN (Below.refl _ _) 1))
          have HY1 := HXe
          clear hx0 hx1 hx2 hbl Q
          go_wp2_with fail
          change (Code.region _ _ true).wp _ _ _ _
          refine wp_region_held_drew (S := fun wz => wz.cell? ⟨w.heap.size, 0, none⟩ = some (.slice (some ⟨Gf 0, 0, none⟩) n n) ∧ wz.cell? ⟨w.heap.size, 1, none⟩ = some (.slice (some ⟨Gf 1, 0, none⟩) n n) ∧ wz.cell? ⟨w.heap.size, 2, none⟩ = some (.slice (some ⟨Gf 2, 0, none⟩) n n) ∧ wz.cell? ⟨Gf 0, k, none⟩ = some (.int .u64 (x0 : Int)) ∧ wz.cell? ⟨Gf 1, k, none⟩ = some (.int .u64 (x1 : Int)) ∧ wz.cell? ⟨Gf 2, k, none⟩ = some (.int .u64 (x2 : Int))) (by kernel_rfl) ((HSl.out _ z0.out)) (fun hHeld => ?_)
          refine wpAnyH_take (i := 0) (v := ?_) rfl (by kernel_rfl) (by kernel_rfl) (by kernel_rfl) (fun _ _ _ h => h) (Or.inl ⟨by rfl, ?_⟩) (HSl.out _ z0.out) ?_
          rotate_left
          · intro w hSw; (try dsimp only at hSw); go_simp; try with_reducible rfl
          try simp only [Act.put, List.getElem_toArray, List.getElem_cons_zero, List.getElem_cons_succ, List.setIfInBounds_toArray, List.set_cons_zero, List.set_cons_succ]
          refine wpAnyH_take (i := 1) (v := ?_) rfl (by kernel_rfl) (by kernel_rfl) (by kernel_rfl) (fun _ _ _ h => h) (Or.inl ⟨by rfl, ?_⟩) (HSl.out _ z0.out) ?_
          rotate_left
          · intro w hSw; (try dsimp only at hSw); go_simp; try with_reducible rfl
          try simp only [Act.put, List.getElem_toArray, List.getElem_cons_zero, List.getElem_cons_succ, List.setIfInBounds_toArray, List.set_cons_zero, List.set_cons_succ]
          refine wpAnyH_take (i := 2) (v := ?_) rfl (by kernel_rfl) (by kernel_rfl) (by kernel_rfl) (fun _ _ _ h => h) (Or.inl ⟨by rfl, ?_⟩) (HSl.out _ z0.out) ?_
          rotate_left
          · intro w hSw; (try dsimp only at hSw); go_simp; try with_reducible rfl
          try simp only [Act.put, List.getElem_toArray, List.getElem_cons_zero, List.getElem_cons_succ, List.setIfInBounds_toArray, List.set_cons_zero, List.set_cons_succ]
          refine wpAnyH_take (i := 3) (v := ?_) rfl (by kernel_rfl) (by kernel_rfl) (by kernel_rfl) (fun _ _ _ h => h) (Or.inl ⟨by rfl, ?_⟩) (HSl.out _ z0.out) ?_
          rotate_left
          · intro w hSw; (try dsimp only at hSw); go_simp; try with_reducible rfl
          try simp only [Act.put, List.getElem_toArray, List.getElem_cons_zero, List.getElem_cons_succ, List.setIfInBounds_toArray, List.set_cons_zero, List.set_cons_succ]
          refine wpAnyH_take (i := 4) (v := ?_) rfl (by kernel_rfl) (by kernel_rfl) (by kernel_rfl) (fun _ _ _ h => h) (Or.inl ⟨by rfl, ?_⟩) (HSl.out _ z0.out) ?_
          rotate_left
          · intro w hSw; (try dsimp only at hSw); go_simp; try with_reducible rfl
          try simp only [Act.put, List.getElem_toArray, List.getElem_cons_zero, List.getElem_cons_succ, List.setIfInBounds_toArray, List.set_cons_zero, List.set_cons_succ]
          refine wpAnyH_take (i := 5) (v := ?_) rfl (by kernel_rfl) (by kernel_rfl) (by kernel_rfl) (fun _ _ _ h => h) (Or.inl ⟨by rfl, ?_⟩) (HSl.out _ z0.out) ?_
          rotate_left
          · intro w hSw; (try dsimp only at hSw); go_simp; try with_reducible rfl
          try simp only [Act.put, List.getElem_toArray, List.getElem_cons_zero, List.getElem_cons_succ, List.setIfInBounds_toArray, List.set_cons_zero, List.set_cons_succ]
          refine wpAnyH_take (i := 6) (v := ?_) rfl (by kernel_rfl) (by kernel_rfl) (by kernel_rfl) (fun _ _ _ h => h) (Or.inl ⟨by rfl, ?_⟩) (HSl.out _ z0.out) ?_
          rotate_left
          · intro w hSw; (try dsimp only at hSw); go_simp; try with_reducible rfl
          try simp only [Act.put, List.getElem_toArray, List.getElem_cons_zero, List.getElem_cons_succ, List.setIfInBounds_toArray, List.set_cons_zero, List.set_cons_succ]
          refine wpAnyH_take (i := 7) (v := ?_) rfl (by kernel_rfl) (by kernel_rfl) (by kernel_rfl) (fun _ _ _ h => h) (Or.inl ⟨by rfl, ?_⟩) (HSl.out _ z0.out) ?_
          rotate_left
          · intro w hSw; (try dsimp only at hSw); go_simp; try with_reducible rfl
          try simp only [Act.put, List.getElem_toArray, List.getElem_cons_zero, List.getElem_cons_succ, List.setIfInBounds_toArray, List.set_cons_zero, List.set_cons_succ]
          refine wpAnyH_take (i := 8) (v := ?_) rfl (by kernel_rfl) (by kernel_rfl) (by kernel_rfl) (fun _ _ _ h => h) (Or.inl ⟨by rfl, ?_⟩) (HSl.out _ z0.out) ?_
          rotate_left
          · intro w hSw; (try dsimp only at hSw); go_simp; try with_reducible rfl
          try simp only [Act.put, List.getElem_toArray, List.getElem_cons_zero, List.getElem_cons_succ, List.setIfInBounds_toArray, List.set_cons_zero, List.set_cons_succ]
          refine wpAnyH_take (i := 9) (v := ?_) rfl (by kernel_rfl) (by kernel_rfl) (by kernel_rfl) (fun _ _ _ h => h) (Or.inl ⟨by rfl, ?_⟩) (HSl.out _ z0.out) ?_
          rotate_left
          · intro w hSw; (try dsimp only at hSw); go_simp; try with_reducible rfl
          try simp only [Act.put, List.getElem_toArray, List.getElem_cons_zero, List.getElem_cons_succ, List.setIfInBounds_toArray, List.set_cons_zero, List.set_cons_succ]
          refine wpAnyH_take (i := 10) (v := ?_) rfl (by kernel_rfl) (by kernel_rfl) (by kernel_rfl) (fun _ _ _ h => h) (Or.inl ⟨by rfl, ?_⟩) (HSl.out _ z0.out) ?_
          rotate_left
          · intro w hSw; (try dsimp only at hSw); go_simp; try with_reducible rfl
          try simp only [Act.put, List.getElem_toArray, List.getElem_cons_zero, List.getElem_cons_succ, List.setIfInBounds_toArray, List.set_cons_zero, List.set_cons_succ]
          refine wpAnyH_take (i := 11) (v := ?_) rfl (by kernel_rfl) (by kernel_rfl) (by kernel_rfl) (fun _ _ _ h => h) (Or.inl ⟨by rfl, ?_⟩) (HSl.out _ z0.out) ?_
          rotate_left
          · intro w hSw; (try dsimp only at hSw); go_simp; try with_reducible rfl
          try simp only [Act.put, List.getElem_toArray, List.getElem_cons_zero, List.getElem_cons_succ, List.setIfInBounds_toArray, List.set_cons_zero, List.set_cons_succ]
          refine wpAnyH_take (i := 12) (v := ?_) rfl (by kernel_rfl) (by kernel_rfl) (by kernel_rfl) (fun _ _ _ h => h) (Or.inl ⟨by rfl, ?_⟩) (HSl.out _ z0.out) ?_
          rotate_left
          · intro w hSw; (try dsimp only at hSw); go_simp; try with_reducible rfl
          try simp only [Act.put, List.getElem_toArray, List.getElem_cons_zero, List.getElem_cons_succ, List.setIfInBounds_toArray, List.set_cons_zero, List.set_cons_succ]
          refine wpAnyH_take (i := 13) (v := ?_) rfl (by kernel_rfl) (by kernel_rfl) (by kernel_rfl) (fun _ _ _ h => h) (Or.inl ⟨by rfl, ?_⟩) (HSl.out _ z0.out) ?_
          rotate_left
          · intro w hSw; (try dsimp only at hSw); go_simp; try with_reducible rfl
          try simp only [Act.put, List.getElem_toArray, List.getElem_cons_zero, List.getElem_cons_succ, List.setIfInBounds_toArray, List.set_cons_zero, List.set_cons_succ]
          refine wpAnyH_take (i := 14) (v := ?_) rfl (by kernel_rfl) (by kernel_rfl) (by kernel_rfl) (fun _ _ _ h => h) (Or.inl ⟨by rfl, ?_⟩) (HSl.out _ z0.out) ?_
          rotate_left
          · intro w hSw; (try dsimp only at hSw); go_simp; try with_reducible rfl
          try simp only [Act.put, List.getElem_toArray, List.getElem_cons_zero, List.getElem_cons_succ, List.setIfInBounds_toArray, List.set_cons_zero, List.set_cons_succ]
          refine wpAnyH_take (i := 15) (v := ?_) rfl (by kernel_rfl) (by kernel_rfl) (by kernel_rfl) (fun _ _ _ h => h) (Or.inl ⟨by rfl, ?_⟩) (HSl.out _ z0.out) ?_
          rotate_left
          · intro w hSw; (try dsimp only at hSw); go_simp; try with_reducible rfl
          try simp only [Act.put, List.getElem_toArray, List.getElem_cons_zero, List.getElem_cons_succ, List.setIfInBounds_toArray, List.set_cons_zero, List.set_cons_succ]
          refine wpAnyH_take (i := 16) (v := ?_) rfl (by kernel_rfl) (by kernel_rfl) (by kernel_rfl) (fun _ _ _ h => h) (Or.inl ⟨by rfl, ?_⟩) (HSl.out _ z0.out) ?_
          rotate_left
          · intro w hSw; (try dsimp only at hSw); go_simp; try with_reducible rfl
          try simp only [Act.put, List.getElem_toArray, List.getElem_cons_zero, List.getElem_cons_succ, List.setIfInBounds_toArray, List.set_cons_zero, List.set_cons_succ]
          refine wpAnyH_take (i := 17) (v := ?_) rfl (by kernel_rfl) (by kernel_rfl) (by kernel_rfl) (fun _ _ _ h => h) (Or.inl ⟨by rfl, ?_⟩) (HSl.out _ z0.out) ?_
          rotate_left
          · intro w hSw; (try dsimp only at hSw); go_simp; try with_reducible rfl
          try simp only [Act.put, List.getElem_toArray, List.getElem_cons_zero, List.getElem_cons_succ, List.setIfInBounds_toArray, List.set_cons_zero, List.set_cons_succ]
          refine wpAnyH_take (i := 18) (v := ?_) rfl (by kernel_rfl) (by kernel_rfl) (by kernel_rfl) (fun _ _ _ h => h) (Or.inl ⟨by rfl, ?_⟩) (HSl.out _ z0.out) ?_
          rotate_left
          · intro w hSw; (try dsimp only at hSw); go_simp; try with_reducible rfl
          try simp only [Act.put, List.getElem_toArray, List.getElem_cons_zero, List.getElem_cons_succ, List.setIfInBounds_toArray, List.set_cons_zero, List.set_cons_succ]
          refine wpAnyH_ready (rs := [19]) (by kernel_rfl) (by simp) ?_
          refine AllReadyH.cons rfl (fun K hK => ?_) AllReadyH.nil
          try simp only [List.getElem_toArray, List.getElem_cons_zero, List.getElem_cons_succ]
          rw [if_pos (by rfl)]
          go_wp2_with (go_at_call 125; refine ((HJ.out _ ((HT.out.below z0.out.2.2.2).mono z0.out.2.2.2.size))).mono ?_; rintro e y19 ⟨rfl, hY19⟩)
          have z19 := Lib.hid (KP.out _ _ _ z0.out hY19)
          clear hY19
          refine hK.out _ _ ((HSl.out _ z19.out)) (fun _ => ?_)
          clear hK K
          try simp only [Act.put, List.getElem_toArray, List.getElem_cons_zero, List.getElem_cons_succ, List.setIfInBounds_toArray, List.set_cons_zero, List.set_cons_succ]
          refine wpAnyH_take (i := 20) (v := ?_) rfl (by kernel_rfl) (by kernel_rfl) (by kernel_rfl) (fun _ _ _ h => h) (Or.inl ⟨by rfl, ?_⟩) (HSl.out _ z19.out) ?_
          rotate_left
          · intro w hSw; (try dsimp only at hSw); go_simp; try with_reducible rfl
          try simp only [Act.put, List.getElem_toArray, List.getElem_cons_zero, List.getElem_cons_succ, List.setIfInBounds_toArray, List.set_cons_zero, List.set_cons_succ]
          refine wpAnyH_ready (rs := [21]) (by kernel_rfl) (by simp) ?_
          refine AllReadyH.cons rfl (fun K hK => ?_) AllReadyH.nil
          try simp only [List.getElem_toArray, List.getElem_cons_zero, List.getElem_cons_succ]
          rw [if_pos (by rfl)]
          refine wp_store_mid _ _ _ rfl _ _ (three (X k)) rfl rfl (z19.out.2.2.1.there k hlt) (by exact size_three) (three_one _) ?_
          have z21 := Lib.hid (KS.out _ z19.out)
          refine hK.out _ _ ((KSr.out _ z21.out)) (fun _ => ?_)
          clear hK K
          try simp only [Act.put, List.getElem_toArray, List.getElem_cons_zero, List.getElem_cons_succ, List.setIfInBounds_toArray, List.set_cons_zero, List.set_cons_succ]
          refine wpAnyH_done (by kernel_rfl) ?_ _
          go_wp2
          go_roundw
          case rel => exact ⟨k + 1, by go_num, by omega, z21⟩
          case measure => simp [intOf]; omega
        · obtain rfl : k = n := by omega
          have hr := Q.out.2.2.1.congr (fun i hi => if_pos hi)
          have hbe := Q.out.2.2.2
          have HE := Lib.hid (And.intro hr hbe)
          clear hr hbe Q KP
          go_wp2
          go_ret
          exact ⟨G, rfl, by omega, HE.out.1, HE.out.2⟩
end Go.Proofs.YtemoginoanhjlaaGreat
end
