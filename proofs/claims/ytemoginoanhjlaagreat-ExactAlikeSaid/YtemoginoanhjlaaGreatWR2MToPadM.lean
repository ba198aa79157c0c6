/- Transforms by halves: the stages, upward and downward; bits turned about. -/
import Derived.Test.YtemoginoanhjlaaGreatWAlgToRad4M
import Derived.Test.YtemoginoanhjlaaGreatWTwidToRdB
import Derived.Test.YtemoginoanhjlaaGreatWBitsRef02BRev
set_option linter.unusedVariables false
set_option linter.unusedSimpArgs false
set_option linter.unusedSectionVars false
section
/- Transforms by halves: the stages, upward and downward; bits turned about. -/
set_option linter.unusedVariables false
set_option linter.unusedSectionVars false
namespace Go.Proofs.YtemoginoanhjlaaGreat
open Alg
section
variable {p : Nat} [NeZero p]
/-- One stage: blocks of S, two and two, are put together. -/
def upF (w : Fin p) (S st : Nat) (F : Nat → Fin p) (i : Nat) : Fin p :=
  if i % (2 * S) < S then F i + pw w (i % (2 * S) * st) * F (i + S) else F (i - S) - pw w ((i % (2 * S) - S) * st) * F i
/-- One stage: blocks of 2 S are parted. -/
def dnF (w : Fin p) (S st : Nat) (F : Nat → Fin p) (i : Nat) : Fin p :=
  if i % (2 * S) < S then F i + F (i + S) else pw w ((i % (2 * S) - S) * st) * (F (i - S) - F i)
theorem blk_mod {b S j : Nat} (h : j < 2 * S) : (b * (2 * S) + j) % (2 * S) = j := by
  rw [Nat.add_comm, Nat.add_mul_mod_self_right, Nat.mod_eq_of_lt h]
theorem upF_lo {w : Fin p} {S st b j : Nat} {F : Nat → Fin p} (hj : j < S) : upF w S st F (b * (2 * S) + j) = F (b * (2 * S) + j) + pw w (j * st) * F (b * (2 * S) + j + S) := by
  unfold upF; rw [blk_mod (by omega), if_pos hj]
theorem upF_hi {w : Fin p} {S st b j : Nat} {F : Nat → Fin p} (hj : j < S) : upF w S st F (b * (2 * S) + j + S) = F (b * (2 * S) + j) - pw w (j * st) * F (b * (2 * S) + j + S) := by
  unfold upF
  rw [show b * (2 * S) + j + S = b * (2 * S) + (j + S) by omega, blk_mod (by omega), if_neg (by omega), show j + S - S = j by omega, show b * (2 * S) + (j + S) - S = b * (2 * S) + j by omega]
theorem dnF_lo {w : Fin p} {S st b j : Nat} {F : Nat → Fin p} (hj : j < S) : dnF w S st F (b * (2 * S) + j) = F (b * (2 * S) + j) + F (b * (2 * S) + j + S) := by
  unfold dnF; rw [blk_mod (by omega), if_pos hj]
theorem dnF_hi {w : Fin p} {S st b j : Nat} {F : Nat → Fin p} (hj : j < S) : dnF w S st F (b * (2 * S) + j + S) = pw w (j * st) * (F (b * (2 * S) + j) - F (b * (2 * S) + j + S)) := by
  unfold dnF
  rw [show b * (2 * S) + j + S = b * (2 * S) + (j + S) by omega, blk_mod (by omega), if_neg (by omega), show j + S - S = j by omega, show b * (2 * S) + (j + S) - S = b * (2 * S) + j by omega]
/-- What stands behind s stages upward, of 2^k numbers. -/
def upN (w : Fin p) (a : Nat → Fin p) (k : Nat) : Nat → Nat → Fin p
  | 0 => fun i => a (rev k i)
  | s + 1 => upF w (2 ^ s) (2 ^ (k - (s + 1))) (upN w a k s)
/-- What stands behind t stages downward. -/
def dnN (w : Fin p) (a : Nat → Fin p) (k : Nat) : Nat → Nat → Fin p
  | 0 => a
  | t + 1 => dnF w (2 ^ (k - (t + 1))) (2 ^ t) (dnN w a k t)
theorem pow_half {w : Fin p} {k s t : Nat} (hp : Prime p) (hw : Ord w (2 ^ k)) (h : k = s + t + 1) : pw (pw w (2 ^ t)) (2 ^ s) = -1 := by
  rw [← pw_mul, ← Nat.pow_add]
  refine half_neg hp hw ?_
  rw [h, Nat.pow_succ, Nat.add_comm s t]; omega
theorem pow_sq (w : Fin p) (t : Nat) : pw w (2 ^ t) * pw w (2 ^ t) = pw w (2 ^ (t + 1)) := by
  rw [← pw_add, Nat.pow_succ]; congr 1; omega
theorem upN_eq {w : Fin p} {k : Nat} (hp : Prime p) (hw : Ord w (2 ^ k)) (a : Nat → Fin p) : ∀ (s t : Nat), s + t = k → ∀ b i, b < 2 ^ t → i < 2 ^ s →
    upN w a k s (b * 2 ^ s + i) = dft (pw w (2 ^ t)) (2 ^ s) (fun j => a (rev t b + 2 ^ t * j)) i := by
  intro s
  induction s with
  | zero =>
    intro t ht b i hb hi
    have h0 : i = 0 := by simpa using hi
    have h1 : t = k := by omega
    subst h0; subst h1
    rw [Nat.pow_zero, dft_one, Nat.mul_one, Nat.add_zero, Nat.mul_zero, Nat.add_zero]; rfl
  | succ s ih =>
    intro t ht b i hb hi
    have e1 : k - (s + 1) = t := by omega
    have hm1 := pow_half (s := s) (t := t) hp hw (by omega)
    have hE := ih (t + 1) (by omega) (2 * b)
    have hO := ih (t + 1) (by omega) (2 * b + 1)
    have hb2 : 2 * b + 1 < 2 ^ (t + 1) := by rw [Nat.pow_succ]; omega
    have eA : (fun j => a (rev (t + 1) (2 * b) + 2 ^ (t + 1) * j)) = fun j => a (rev t b + 2 ^ t * (2 * j)) := by
      funext j; rw [rev_even, Nat.pow_succ, Nat.mul_assoc]
    have eB : (fun j => a (rev (t + 1) (2 * b + 1) + 2 ^ (t + 1) * j)) = fun j => a (rev t b + 2 ^ t * (2 * j + 1)) := by
      funext j; rw [rev_odd, Nat.pow_succ, Nat.mul_assoc, Nat.mul_add, Nat.mul_one]; congr 1; omega
    rw [Nat.pow_succ, Nat.mul_comm (2 ^ s) 2]
    rw [eA] at hE
    rw [eB] at hO
    have i1 : 2 * b * 2 ^ s = b * (2 * 2 ^ s) := by rw [Nat.mul_comm 2 b, Nat.mul_assoc]
    have i2 : (2 * b + 1) * 2 ^ s = b * (2 * 2 ^ s) + 2 ^ s := by rw [Nat.add_mul, i1, Nat.one_mul]
    rw [i1] at hE
    rw [i2] at hO
    rw [upN, e1]
    rcases Nat.lt_or_ge i (2 ^ s) with h | h
    · have hO1 := hO i hb2 h
      rw [show b * (2 * 2 ^ s) + 2 ^ s + i = b * (2 * 2 ^ s) + i + 2 ^ s by omega] at hO1
      rw [upF_lo h, hE i (by omega) h, hO1, dft_up_low, pow_sq, ← pw_mul, Nat.mul_comm (2 ^ t) i]
    · obtain ⟨j, rfl⟩ : ∃ j, i = j + 2 ^ s := ⟨i - 2 ^ s, by omega⟩
      have hj : j < 2 ^ s := by rw [Nat.pow_succ] at hi; omega
      have hO1 := hO j hb2 hj
      rw [show b * (2 * 2 ^ s) + 2 ^ s + j = b * (2 * 2 ^ s) + j + 2 ^ s by omega] at hO1
      rw [← Nat.add_assoc, upF_hi hj, hE j (by omega) hj, hO1, dft_up_high hm1, pow_sq, ← pw_mul, Nat.mul_comm (2 ^ t) j]
theorem upN_all {w : Fin p} {k : Nat} (hp : Prime p) (hw : Ord w (2 ^ k)) (a : Nat → Fin p) (i : Nat) (hi : i < 2 ^ k) : upN w a k k i = dft w (2 ^ k) a i := by
  have h := upN_eq hp hw a k 0 (by omega) 0 i (by simp) hi
  rw [Nat.zero_mul, Nat.zero_add, Nat.pow_zero, pw_one] at h
  rw [h]
  exact dft_congr (fun j _ => by rw [Nat.one_mul, rev, Nat.zero_add]) i
theorem dnN_eq {w : Fin p} {k : Nat} (hp : Prime p) (hw : Ord w (2 ^ k)) (a : Nat → Fin p) : ∀ (t s : Nat), s + t = k → ∀ b i, b < 2 ^ t → i < 2 ^ s →
    dft w (2 ^ k) a (rev t b + 2 ^ t * i) = dft (pw w (2 ^ t)) (2 ^ s) (fun j => dnN w a k t (b * 2 ^ s + j)) i := by
  intro t
  induction t with
  | zero =>
    intro s hs b i hb hi
    have h0 : b = 0 := by simpa using hb
    have h1 : s = k := by omega
    subst h0; subst h1
    rw [Nat.pow_zero, pw_one, Nat.one_mul, rev, Nat.zero_add, Nat.zero_mul]
    exact dft_congr (fun j _ => by rw [Nat.zero_add]; rfl) i
  | succ t ih =>
    intro s hs b' i hb hi
    have e1 : k - (t + 1) = s := by omega
    have hm1 := pow_half (s := s) (t := t) hp hw (by omega)
    obtain ⟨b, e, he, rfl⟩ : ∃ b e, e < 2 ∧ b' = 2 * b + e := ⟨b' / 2, b' % 2, Nat.mod_lt _ (by omega), by omega⟩
    have hb2 : b < 2 ^ t := by rw [Nat.pow_succ] at hb; omega
    have hi2 : 2 * i + e < 2 ^ (s + 1) := by rw [Nat.pow_succ]; omega
    have hI := ih (s + 1) (by omega) b (2 * i + e) hb2 hi2
    rw [Nat.pow_succ 2 s, Nat.mul_comm (2 ^ s) 2] at hI
    have i1 : 2 * b * 2 ^ s = b * (2 * 2 ^ s) := by rw [Nat.mul_comm 2 b, Nat.mul_assoc]
    rw [← pow_sq]
    rcases (show e = 0 ∨ e = 1 by omega) with h | h
    · subst h
      simp only [Nat.add_zero] at hI ⊢
      rw [rev_even, show 2 ^ (t + 1) * i = 2 ^ t * (2 * i) by rw [Nat.pow_succ, Nat.mul_assoc], hI, dft_down_even hm1, i1]
      refine dft_congr (fun j hj => ?_) i
      rw [dnN, e1, dnF_lo hj, Nat.add_assoc]
    · subst h
      rw [rev_odd, show 2 ^ t + rev t b + 2 ^ (t + 1) * i = rev t b + 2 ^ t * (2 * i + 1) by rw [Nat.pow_succ, Nat.mul_assoc, Nat.mul_add, Nat.mul_one]; omega, hI, dft_down_odd hm1]
      refine dft_congr (fun j hj => ?_) i
      rw [dnN, e1, show (2 * b + 1) * 2 ^ s + j = b * (2 * 2 ^ s) + j + 2 ^ s by rw [Nat.add_mul, i1, Nat.one_mul]; omega, dnF_hi hj, ← pw_mul, Nat.mul_comm (2 ^ t) j, Nat.add_assoc]
theorem dnN_all {w : Fin p} {k : Nat} (hp : Prime p) (hw : Ord w (2 ^ k)) (a : Nat → Fin p) (b : Nat) (hb : b < 2 ^ k) : dnN w a k k b = dft w (2 ^ k) a (rev k b) := by
  have h := dnN_eq hp hw a k 0 (by omega) b 0 hb (by simp)
  rw [Nat.mul_zero, Nat.add_zero, Nat.pow_zero, dft_one, Nat.mul_one, Nat.add_zero] at h
  exact h.symm

/-- The number of the pair that a place belongs to. -/
def hx (S i : Nat) : Nat := i / (2 * S) * S + i % S
theorem hx_lo {S b j : Nat} (hj : j < S) : hx S (b * (2 * S) + j) = b * S + j := by
  unfold hx
  rw [Nat.add_comm (b * (2 * S)) j, Nat.add_mul_div_right _ _ (by omega), Nat.div_eq_of_lt (by omega), Nat.zero_add, ← Nat.mul_assoc, Nat.add_mul_mod_self_right, Nat.mod_eq_of_lt hj]
theorem hx_hi {S b j : Nat} (hj : j < S) : hx S (b * (2 * S) + j + S) = b * S + j := by
  unfold hx
  rw [Nat.add_assoc, Nat.add_comm (b * (2 * S)) (j + S), Nat.add_mul_div_right _ _ (by omega), Nat.div_eq_of_lt (by omega), Nat.zero_add, ← Nat.mul_assoc, Nat.add_mul_mod_self_right, Nat.add_mod_right, Nat.mod_eq_of_lt hj]
theorem hx_inv {S b j i : Nat} (hj : j < S) (h : hx S i = b * S + j) : i = b * (2 * S) + j ∨ i = b * (2 * S) + j + S := by
  unfold hx at h
  have h0 : i % S < S := Nat.mod_lt _ (by omega)
  have hq : i / (2 * S) = b := by
    have h1 : (i / (2 * S) * S + i % S) / S = i / (2 * S) := by rw [Nat.add_comm, Nat.add_mul_div_right _ _ (by omega), Nat.div_eq_of_lt h0, Nat.zero_add]
    have h2 : (b * S + j) / S = b := by rw [Nat.add_comm, Nat.add_mul_div_right _ _ (by omega), Nat.div_eq_of_lt hj, Nat.zero_add]
    rw [← h1, h, h2]
  have hr : i % S = j := by rw [hq] at h; omega
  have hd := Nat.div_add_mod i (2 * S)
  have hm : i % (2 * S) < 2 * S := Nat.mod_lt _ (by omega)
  have hmm : i % (2 * S) % S = j := by rw [Nat.mod_mod_of_dvd _ ⟨2, by omega⟩, hr]
  rw [hq, Nat.mul_comm] at hd
  obtain ⟨m, hme⟩ : ∃ m, m = i % (2 * S) := ⟨_, rfl⟩
  rw [← hme] at hd hm hmm
  rcases Nat.lt_or_ge m S with h1 | h1
  · rw [Nat.mod_eq_of_lt h1] at hmm; omega
  · rw [Nat.mod_eq_sub_mod h1, Nat.mod_eq_of_lt (by omega)] at hmm; omega
/-- The row behind c pairs of a stage. -/
def brow (F F' : Nat → Fin p) (S n c : Nat) : List Int := full n fun i => if hx S i < c then ((F' i).val : Int) else ((F i).val : Int)
theorem brow_length (F F' : Nat → Fin p) (S n c : Nat) : (brow F F' S n c).length = n := full_length _ _
theorem brow_zero (F F' : Nat → Fin p) (S n : Nat) : brow F F' S n 0 = lst n F := full_congr fun i _ => by rw [if_neg (by omega)]
theorem brow_full {F F' : Nat → Fin p} {S B : Nat} (hS : 0 < S) : brow F F' S (B * (2 * S)) (B * S) = lst (B * (2 * S)) F' := full_congr fun i hi => by
  have h1 : i / (2 * S) < B := (Nat.div_lt_iff_lt_mul (by omega)).2 hi
  have h2 : i % S < S := Nat.mod_lt _ hS
  have h3 : (i / (2 * S) + 1) * S ≤ B * S := Nat.mul_le_mul_right _ h1
  rw [if_pos (by unfold hx; rw [Nat.add_mul, Nat.one_mul] at h3; omega)]
theorem full_set2 {n : Nat} {f f' : Nat → Int} {i0 i1 : Nat} {x0 x1 : Int} (h0 : f' i0 = x0) (h1 : f' i1 = x1) (d : i0 ≠ i1)
    (hr : ∀ j, j < n → j ≠ i0 → j ≠ i1 → f' j = f j) : ((full n f).set i0 x0).set i1 x1 = full n f' := by
  unfold full
  apply List.ext_getElem
  · simp
  · intro j hj hj'
    simp at hj'
    simp only [List.getElem_set, List.getElem_map, List.getElem_range]
    by_cases e1 : i1 = j
    · subst e1; rw [if_pos rfl, h1]
    · rw [if_neg e1]
      by_cases e0 : i0 = j
      · subst e0; rw [if_pos rfl, h0]
      · rw [if_neg e0, hr j hj' (Ne.symm e0) (Ne.symm e1)]
theorem brow_step {F F' : Nat → Fin p} {S n b j : Nat} (hj : j < S) :
    ((brow F F' S n (b * S + j)).set (b * (2 * S) + j) ((F' (b * (2 * S) + j)).val : Int)).set (b * (2 * S) + j + S) ((F' (b * (2 * S) + j + S)).val : Int) = brow F F' S n (b * S + j + 1) := by
  refine full_set2 (by rw [hx_lo hj, if_pos (by omega)]) (by rw [hx_hi hj, if_pos (by omega)]) (by omega) fun i hi n0 n1 => ?_
  have hne : hx S i ≠ b * S + j := fun h => by
    rcases hx_inv hj h with h | h
    · exact n0 h
    · exact n1 h
  by_cases h : hx S i < b * S + j
  · rw [if_pos h, if_pos (by omega)]
  · rw [if_neg h, if_neg (by omega)]
theorem brow_lo {F F' : Nat → Fin p} {S n b j : Nat} (hj : j < S) (hn : b * (2 * S) + j < n) : (brow F F' S n (b * S + j)).getD (b * (2 * S) + j) 0 = ((F (b * (2 * S) + j)).val : Int) := by
  unfold brow
  rw [full_get hn, hx_lo hj, if_neg (by omega)]
theorem brow_hi {F F' : Nat → Fin p} {S n b j : Nat} (hj : j < S) (hn : b * (2 * S) + j + S < n) : (brow F F' S n (b * S + j)).getD (b * (2 * S) + j + S) 0 = ((F (b * (2 * S) + j + S)).val : Int) := by
  unfold brow
  rw [full_get hn, hx_hi hj, if_neg (by omega)]
end
/-- A list, each at the place of its number, the bits turned about, behind i of them. -/
def trow (k : Nat) (L : List Int) (i : Nat) : List Int := full (2 ^ k) fun j => if rev k j < i then L.getD (rev k j) 0 else 0
theorem trow_length (k : Nat) (L : List Int) (i : Nat) : (trow k L i).length = 2 ^ k := full_length _ _
theorem trow_zero (k : Nat) (L : List Int) : trow k L 0 = List.replicate (2 ^ k) 0 := by
  unfold trow full
  rw [List.map_congr_left (g := fun _ => (0 : Int)) (fun i _ => by rw [if_neg (by omega)])]
  simp [List.map_const']
theorem trow_full (k : Nat) (L : List Int) : trow k L (2 ^ k) = full (2 ^ k) fun j => L.getD (rev k j) 0 := full_congr fun j _ => by rw [if_pos (rev_lt _ _)]
theorem trow_step {k i : Nat} {L : List Int} (hi : i < 2 ^ k) : (trow k L i).set (rev k i) (L.getD i 0) = trow k L (i + 1) := by
  unfold trow full
  apply List.ext_getElem
  · simp
  · intro j hj hj'
    simp at hj'
    simp only [List.getElem_set, List.getElem_map, List.getElem_range]
    by_cases e : rev k i = j
    · subst e; rw [if_pos rfl, rev_rev k i hi, if_pos (by omega)]
    · rw [if_neg e]
      have hne : rev k j ≠ i := fun h => e (by rw [← h, rev_rev k j hj'])
      by_cases h : rev k j < i
      · rw [if_pos h, if_pos (by omega)]
      · rw [if_neg h, if_neg (by omega)]
end Go.Proofs.YtemoginoanhjlaaGreat
end

section
/- slices.Clone at numbers. -/
namespace Go.Proofs.YtemoginoanhjlaaGreat
open Go.RowKit
open Alg

theorem quiet_add {P : Program} {f : FuncId} {args : Array Value} {w : World} {a n : Nat} {v : Value}
    (h : Calls P f args (w.drewN (a + n)) fun e w' => e = .returned v ∧ ∃ m, w' = (w.drewN (a + n)).drewN m) :
    Calls P f args (w.drewN (a + n)) fun e w'' => e = .returned v ∧ ∃ m, w'' = w.drewN (a + m) :=
  h.mono fun _ _ ⟨he, m, hm⟩ => ⟨he, n + m, by rw [hm, World.drewN_drewN, Nat.add_assoc]⟩
theorem addrN (b o n : Nat) : (⟨b, o, none⟩ : Addr).add n = ⟨b, o + n, none⟩ := by unfold Addr.add; split <;> simp_all
set_option maxHeartbeats 1000000 in
theorem cloneU_any (A : Option Addr) (c : Nat) (L : List Int) (w : World) (hl : L.length ≤ 8796093022208) (hR : RdI w w.heap.size .u64 A L) :
    Calls Tryz.prog 138 #[.slice A L.length c] w fun r w' => ∃ V, r = .returned V ∧ OwnU w' w.heap.size V L.length L ∧ Below w.heap.size w w' := by
  obtain ⟨i0, hi, hz0, hz1, hz2⟩ := info_parts info_u64
  have hnil : ∀ (W : World) (a : Option Addr) (n c : Nat), (binOp .eql 64 (.slice a n c) (.slice none 0 0)).run Tryz.prog W = .ok (.bool a.isNone) W := fun W a n c => Lib.run_eql_slice_nil W 64 22 a n c 0 0 Tryz.underlying64
  rcases A with _ | ad
  · have h1 : L.length = 0 := by
      rcases Nat.eq_zero_or_pos L.length with h | h
      · exact h
      · obtain ⟨b, o, h, _⟩ := hR h
        cases h
    have hf : L = [] := List.eq_nil_of_length_eq_zero h1
    subst hf
    go_enter Tryz.func138, Tryz.ntmps138
    go_wp2
    go_ret
    exact ⟨_, rfl, World.ownsRow_nil _ _ _ _, Below.refl _ _⟩
  · have hcells : ∀ j u, (ints .u64 L)[j]? = some u → w.cell? (ad.add j) = some u := by
      intro j u hu
      have hj : j < L.length := by
        rcases Nat.lt_or_ge j L.length with h | h
        · exact h
        · rw [List.getElem?_eq_none (by rw [ints_length]; exact h)] at hu; cases hu
      obtain ⟨b, o, h, _, hc⟩ := hR (by omega)
      have h' : ad = ⟨b, o, none⟩ := Option.some.inj h
      rw [h']
      have h2 := hc j hj
      have h3 : u = .int .u64 (L.getD j 0) := by
        simp [ints, List.getElem?_eq_getElem hj] at hu
        rw [← hu, List.getD_eq_getElem?_getD, List.getElem?_eq_getElem hj]; rfl
      rw [h3, ← h2, addrN]
    go_enter Tryz.func138, Tryz.ntmps138
    have hown : (w.alloc (.cells #[] 22)).ownsRow w.heap.size 22 1 (.slice (some ⟨w.heap.size, 0, none⟩) 0 0) 0 [] := World.ownsRow_lit w #[] 0 (Nat.le_refl _) (by unfold maxLen; omega) rfl
    have hB := (Below.refl w.heap.size w).alloc (Nat.le_refl _) (.cells #[] 22)
    have hcells2 : ∀ j u, (ints .u64 L)[j]? = some u → (w.alloc (.cells #[] 22)).cell? (ad.add j) = some u := fun j u hu => by
      have h1 := hcells j u hu
      exact (hB.cell (World.block_lt_of_cell? w _ h1)).trans h1
    have HC := Lib.hid hcells2
    have h1 : ∀ u ∈ ints .u64 L, u.oneCell' = true := fun u hu => by
      obtain ⟨x, _, rfl⟩ := List.mem_map.1 hu
      rfl
    have H1 := Lib.hid h1
    clear hcells hcells2 h1
    go_wp2_with (at_builtin; refine wpList_append_own _ rfl _ _ 64 rfl w.heap.size 22 i0 (.int .u64 0) 1 8 Tryz.underlying64 hi hz0 hz1 hz2 rfl (by decide) _ 0 [] rfl hown ad L.length c (ints .u64 L) rfl ?c0 HC.out H1.out ?c3 ?c4 ?c5 ?_)
    case c0 => rw [ints_length]; omega
    case c3 => unfold maxLen; omega
    case c4 => omega
    case c5 => simp
    intro v' w1 hown' hgrow _
    have HO : Hid (OwnU w1 w.heap.size v' L.length L) := Lib.hid (by
      unfold OwnU
      simpa using hown')
    have hB2 : Below w.heap.size w w1 := hB.grown hgrow (by simp) (fun k hk => by simp [Value.ownBlock] at hk; omega)
    clear hown' hown hgrow
    go_wp2
    go_ret
    exact ⟨_, rfl, HO.out, hB2⟩
end Go.Proofs.YtemoginoanhjlaaGreat
end

section
/- Products of lists, round and round and straight on, and transforms. -/
set_option linter.unusedVariables false
set_option linter.unusedSectionVars false
namespace Go.Proofs.YtemoginoanhjlaaGreat
open Alg
section
variable {p : Nat} [NeZero p]
theorem add_mod_inj {N j a b : Nat} (ha : a < N) (hb : b < N) (h : (a + j) % N = (b + j) % N) : a = b := by
  rcases Nat.le_total a b with h1 | h1
  · have h2 := Nat.sub_mod_eq_zero_of_mod_eq h.symm
    rw [show b + j - (a + j) = b - a by omega, Nat.mod_eq_of_lt (by omega)] at h2
    omega
  · have h2 := Nat.sub_mod_eq_zero_of_mod_eq h
    rw [show a + j - (b + j) = a - b by omega, Nat.mod_eq_of_lt (by omega)] at h2
    omega
theorem sm_shift (N j : Nat) (F : Nat → Fin p) : sm N (fun k => F ((k + j) % N)) = sm N F :=
  sm_perm N (fun k => (k + j) % N) F (fun i hi => Nat.mod_lt _ (by omega)) fun a b ha hb h => add_mod_inj ha hb h
/-- The product round and round. -/
def cyc (N : Nat) (A B : Nat → Fin p) (i : Nat) : Fin p := sm N fun j => A j * B ((i + (N - j)) % N)
theorem cyc_congr {N : Nat} {A A' B B' : Nat → Fin p} (hA : ∀ j, j < N → A j = A' j) (hB : ∀ j, j < N → B j = B' j) (i : Nat) : cyc N A B i = cyc N A' B' i :=
  sm_congr fun j hj => by rw [hA j hj, hB _ (Nat.mod_lt _ (by omega))]
theorem dft_cyc {w : Fin p} {N : Nat} (hw : pw w N = 1) (A B : Nat → Fin p) (m : Nat) : dft w N (cyc N A B) m = dft w N A m * dft w N B m := by
  have hv : pw (pw w m) N = 1 := by rw [← pw_mul, Nat.mul_comm, pw_mul, hw, one_pw]
  have h1 : ∀ j, j < N → pw w (m * j) * dft w N B m = sm N fun i => pw w (m * i) * B ((i + (N - j)) % N) := fun j hj => by
    unfold dft
    rw [← sm_shift N (N - j) (fun k => pw w (m * k) * B k), ← sm_mul]
    refine sm_congr fun i hi => ?_
    have h2 : pw w (m * j) * pw w (m * ((i + (N - j)) % N)) = pw w (m * i) := by
      rw [pw_mul, pw_mul, pw_mul, ← pw_mod hv, ← pw_add, show j + (i + (N - j)) = i + N by omega, pw_add, hv]; grind
    rw [← h2]; grind
  have h3 : dft w N A m * dft w N B m = sm N fun j => sm N fun i => pw w (m * i) * (A j * B ((i + (N - j)) % N)) := by
    have : dft w N A m * dft w N B m = sm N fun j => A j * (pw w (m * j) * dft w N B m) := by
      rw [show dft w N A m * dft w N B m = dft w N B m * dft w N A m by grind]
      unfold dft
      rw [← sm_mul]
      exact sm_congr fun j _ => by grind
    rw [this]
    refine sm_congr fun j hj => ?_
    rw [h1 j hj, ← sm_mul]
    exact sm_congr fun i _ => by grind
  rw [h3, sm_swap]
  unfold dft cyc
  refine sm_congr fun i _ => ?_
  rw [sm_mul]
/-- The product straight on. -/
def cv (A B : Nat → Fin p) (i : Nat) : Fin p := sm (i + 1) fun j => A j * B (i - j)
theorem cyc_lin {N la lb i : Nat} {A B : Nat → Fin p} (hi : i < N) (hA : ∀ j, la ≤ j → A j = 0) (hB : ∀ j, lb ≤ j → B j = 0) (h : la + lb ≤ N + i + 1) : cyc N A B i = cv A B i := by
  unfold cyc cv
  obtain ⟨m, rfl⟩ : ∃ m, N = (i + 1) + m := ⟨N - (i + 1), by omega⟩
  rw [sm_split]
  have h1 : (sm m fun k => A (i + 1 + k) * B ((i + (i + 1 + m - (i + 1 + k))) % (i + 1 + m))) = 0 := by
    rw [← sm_const0 m]
    refine sm_congr fun k hk => ?_
    rw [show i + (i + 1 + m - (i + 1 + k)) = i + m - k by omega, Nat.mod_eq_of_lt (by omega)]
    rcases Nat.lt_or_ge (i + 1 + k) la with h2 | h2
    · rw [hB _ (by omega)]; grind
    · rw [hA _ h2]; grind
  rw [h1]
  have h2 : (sm (i + 1) fun j => A j * B ((i + (i + 1 + m - j)) % (i + 1 + m))) = sm (i + 1) fun j => A j * B (i - j) := sm_congr fun j hj => by
    rw [show i + (i + 1 + m - j) = (i - j) + (i + 1 + m) by omega, Nat.add_mod_right, Nat.mod_eq_of_lt (by omega)]
  rw [h2]; grind
/-- Two transforms multiplied, and back: the product round and round. -/
theorem tr_cyc {g : Fin p} {N : Nat} (hp : Prime p) (hg : Ord g (p - 1)) (hd : N ∣ p - 1) (h0 : 0 < N) (A B : Nat → Fin p) (i : Nat) (hi : i < N) :
    tr g N true (fun m => tr g N false A m * tr g N false B m) i = cyc N A B i := by
  have hw : pw (rt g N false) N = 1 := (rt_ord hg hd h0 false).2.1
  have h1 : ∀ C m, tr g N false C m = dft (rt g N false) N C m := fun C m => by show (1 : Fin p) * _ = _; grind
  have h2 := tr_back hp hg hd h0 false (cyc N A B) i hi
  rw [← h2]
  show sc p N true * dft (rt g N true) N _ i = sc p N true * dft (rt g N true) N _ i
  congr 1
  exact dft_congr (fun m _ => by rw [h1, h1, h1, dft_cyc hw]) i
/-- A list, noughts behind it. -/
def padz (n : Nat) (A : Nat → Fin p) (i : Nat) : Fin p := if i < n then A i else 0
theorem padz_in {n i : Nat} {A : Nat → Fin p} (h : i < n) : padz n A i = A i := if_pos h
theorem padz_out {n i : Nat} {A : Nat → Fin p} (h : n ≤ i) : padz n A i = 0 := if_neg (by omega)
/-- Round and round is straight on, folded. -/
theorem cyc_fold {n i : Nat} (hi : i < n) (A B : Nat → Fin p) : cyc n A B i = cv (padz n A) (padz n B) i + cv (padz n A) (padz n B) (i + n) := by
  have e1 : cv (padz n A) (padz n B) i = sm (i + 1) fun j => A j * B (i - j) := sm_congr fun j hj => by rw [padz_in (by omega), padz_in (by omega)]
  have e2 : cv (padz n A) (padz n B) (i + n) = sm (n - (i + 1)) fun k => A (i + 1 + k) * B (n - 1 - k) := by
    unfold cv
    rw [show i + n + 1 = (i + 1) + ((n - (i + 1)) + (i + 1)) by omega, sm_split (i + 1), sm_split (n - (i + 1))]
    have z1 : (sm (i + 1) fun j => padz n A j * padz n B (i + n - j)) = 0 := by
      rw [← sm_const0 (i + 1)]
      exact sm_congr fun j hj => by rw [padz_out (A := B) (by omega)]; grind
    have z2 : (sm (i + 1) fun j => padz n A (i + 1 + (n - (i + 1) + j)) * padz n B (i + n - (i + 1 + (n - (i + 1) + j)))) = 0 := by
      rw [← sm_const0 (i + 1)]
      exact sm_congr fun j hj => by rw [padz_out (A := A) (by omega)]; grind
    rw [z1, z2]
    have : (sm (n - (i + 1)) fun k => padz n A (i + 1 + k) * padz n B (i + n - (i + 1 + k))) = sm (n - (i + 1)) fun k => A (i + 1 + k) * B (n - 1 - k) := sm_congr fun k hk => by
      rw [padz_in (by omega), padz_in (by omega), show i + n - (i + 1 + k) = n - 1 - k by omega]
    rw [this]; grind
  rw [e1, e2]
  unfold cyc
  obtain ⟨m, rfl⟩ : ∃ m, n = (i + 1) + m := ⟨n - (i + 1), by omega⟩
  rw [sm_split]
  congr 1
  · exact sm_congr fun j hj => by rw [show i + (i + 1 + m - j) = (i - j) + (i + 1 + m) by omega, Nat.add_mod_right, Nat.mod_eq_of_lt (by omega)]
  · rw [show i + 1 + m - (i + 1) = m by omega]
    exact sm_congr fun k hk => by rw [show i + (i + 1 + m - (i + 1 + k)) = i + 1 + m - 1 - k by omega, Nat.mod_eq_of_lt (by omega)]
end
end Go.Proofs.YtemoginoanhjlaaGreat
end

section
/- Rows of lists: noughts behind, products place by place, sums round and round. -/
set_option linter.unusedVariables false
set_option linter.unusedSimpArgs false
namespace Go.Proofs.YtemoginoanhjlaaGreat
open Go.RowKit
open Alg

theorem ints_append (k : IntKind) (xs ys : List Int) : ints k (xs ++ ys) = ints k xs ++ ints k ys := by simp [ints]
theorem ints_repl (k : IntKind) (m : Nat) : List.replicate m (.int k 0) = ints k (List.replicate m 0) := by simp [ints]
theorem pad_lst {p : Nat} [NeZero p] {n N : Nat} (h : n ≤ N) (F : Nat → Fin p) : lst n F ++ List.replicate (N - n) 0 = lst N (padz n F) := by
  apply List.ext_getElem
  · simp [lst, full]; omega
  · intro i h1 h2
    simp only [lst, full, List.length_append, List.length_map, List.length_range, List.length_replicate] at h1 h2
    by_cases hi : i < n
    · rw [List.getElem_append_left (by simp [lst, full]; exact hi)]
      simp only [lst, full, List.getElem_map, List.getElem_range, padz_in hi]
    · rw [List.getElem_append_right (by simp [lst, full]; omega)]
      simp only [lst, full, List.getElem_map, List.getElem_range, List.getElem_replicate, padz_out (A := F) (show n ≤ i by omega)]
      simp
/-- The row behind i products. -/
def mrow {p : Nat} [NeZero p] (N : Nat) (X Y : Nat → Fin p) (i : Nat) : List Int := lst N fun j => if j < i then X j * Y j else X j
theorem mrow_zero {p : Nat} [NeZero p] (N : Nat) (X Y : Nat → Fin p) : lst N X = mrow N X Y 0 := lst_congr fun i _ => by rw [if_neg (by omega)]
theorem mrow_full {p : Nat} [NeZero p] (N : Nat) (X Y : Nat → Fin p) : mrow N X Y N = lst N fun j => X j * Y j := lst_congr fun i hi => by rw [if_pos hi]
theorem mrow_step {p : Nat} [NeZero p] {N i : Nat} {X Y : Nat → Fin p} (hi : i < N) : (mrow N X Y i).set i (((X i * Y i : Fin p).val : Nat) : Int) = mrow N X Y (i + 1) := by
  unfold mrow lst full
  apply List.ext_getElem
  · simp
  · intro j hj hj'
    simp at hj'
    simp only [List.getElem_set, List.getElem_map, List.getElem_range]
    by_cases e : i = j
    · subst e; rw [if_pos rfl, if_pos (by omega)]
    · rw [if_neg e]
      by_cases h : j < i
      · rw [if_pos h, if_pos (by omega)]
      · rw [if_neg h, if_neg (by omega)]
theorem mrow_at {p : Nat} [NeZero p] {N i : Nat} {X Y : Nat → Fin p} (hi : i < N) : (mrow N X Y i).getD i 0 = ((X i).val : Int) := by
  unfold mrow
  rw [lst_get hi, if_neg (by omega)]
theorem mrow_length {p : Nat} [NeZero p] (N : Nat) (X Y : Nat → Fin p) (i : Nat) : (mrow N X Y i).length = N := lst_length _ _
/-- The sums behind i numbers, round and round n. -/
def frow {p : Nat} [NeZero p] (n : Nat) (C : Nat → Fin p) (i : Nat) : List Int := lst n fun j => (if j < i then C j else 0) + (if j + n < i then C (j + n) else 0)
theorem frow_zero {p : Nat} [NeZero p] (n : Nat) (C : Nat → Fin p) : frow n C 0 = List.replicate n 0 := by
  unfold frow lst full
  rw [List.map_congr_left (g := fun _ => (0 : Int)) (fun i _ => by simp)]
  simp [List.map_const']
theorem frow_at {p : Nat} [NeZero p] {n i : Nat} {C : Nat → Fin p} (hn : 0 < n) (hi : i < 2 * n) : (frow n C i).getD (i % n) 0 = (((if i < n then 0 else C (i - n) : Fin p)).val : Int) := by
  unfold frow
  rw [lst_get (Nat.mod_lt _ hn)]
  by_cases h : i < n
  · rw [Nat.mod_eq_of_lt h, if_neg (by omega), if_neg (by omega), if_pos h]; simp
  · rw [Nat.mod_eq_sub_mod (by omega), Nat.mod_eq_of_lt (by omega), if_pos (by omega), if_neg (by omega), if_neg h]; simp
theorem frow_step {p : Nat} [NeZero p] {n i : Nat} {C : Nat → Fin p} (hn : 0 < n) (hi : i < 2 * n) : (frow n C i).set (i % n) ((((if i < n then 0 else C (i - n)) + C i : Fin p).val : Nat) : Int) = frow n C (i + 1) := by
  unfold frow lst full
  apply List.ext_getElem
  · simp
  · intro j hj hj'
    simp at hj'
    simp only [List.getElem_set, List.getElem_map, List.getElem_range]
    by_cases h : i < n
    · rw [Nat.mod_eq_of_lt h, if_pos h]
      by_cases e : i = j
      · subst e; rw [if_pos rfl, if_pos (by omega), if_neg (by omega)]; congr 2; grind
      · rw [if_neg e]
        rw [if_neg (show ¬ j + n < i by omega), if_neg (show ¬ j + n < i + 1 by omega)]
        by_cases h2 : j < i
        · rw [if_pos h2, if_pos (by omega)]
        · rw [if_neg h2, if_neg (by omega)]
    · rw [Nat.mod_eq_sub_mod (by omega), Nat.mod_eq_of_lt (by omega), if_neg h]
      by_cases e : i - n = j
      · subst e; rw [if_pos rfl, if_pos (by omega), if_pos (by omega), show i - n + n = i by omega]
      · rw [if_neg e, if_pos (by omega), if_pos (show j < i + 1 by omega)]
        by_cases h2 : j + n < i
        · rw [if_pos h2, if_pos (by omega)]
        · rw [if_neg h2, if_neg (by omega)]
theorem frow_length {p : Nat} [NeZero p] (n : Nat) (C : Nat → Fin p) (i : Nat) : (frow n C i).length = n := lst_length _ _
theorem frow_full {p : Nat} [NeZero p] {n N : Nat} (hn : 0 < n) (hN : 2 * n ≤ N + 1) (A B : Nat → Fin p) : frow n (cyc N (padz n A) (padz n B)) (2 * n - 1) = lst n (cyc n A B) := lst_congr fun j hj => by
  have hlin : ∀ i, i < N → i < 2 * n - 1 → cyc N (padz n A) (padz n B) i = cv (padz n A) (padz n B) i := fun i hi _ => cyc_lin hi (fun j h => padz_out h) (fun j h => padz_out h) (by omega)
  rw [cyc_fold hj, if_pos (by omega), hlin j (by omega) (by omega)]
  by_cases h : j + n < 2 * n - 1
  · rw [if_pos h, hlin (j + n) (by omega) h]
  · rw [if_neg h]
    have : cv (padz n A) (padz n B) (j + n) = 0 := by
      unfold cv
      rw [← sm_const0 (j + n + 1)]
      refine sm_congr fun i hi => ?_
      rcases Nat.lt_or_ge i n with h1 | h1
      · rw [padz_out (A := B) (by omega)]; grind
      · rw [padz_out (A := A) h1]; grind
    rw [this]
theorem own_set {w : World} {B G n c : Nat} {L : List Int} (h : OwnU w B (.slice (some ⟨G, 0, none⟩) n c) n L) (o : Nat) (ho : o < n) : w.cell? ⟨G, o, none⟩ = some (.int .u64 (L.getD o 0)) ∧ w.frozen? ⟨G, o, none⟩ = false ∧ B ≤ G := ⟨(h.set o ho 0).2.1, (h.set o ho 0).2.2.1, (h.set o ho 0).2.2.2⟩
theorem rd_cells {w : World} {b o : Nat} {L : List Int} (hc : ∀ j, j < L.length → w.cell? ⟨b, o + j, none⟩ = some (.int .u64 (L.getD j 0))) : ∀ j u, (ints .u64 L)[j]? = some u → w.cell? ((⟨b, o, none⟩ : Addr).add j) = some u := by
  intro j u hu
  have hj : j < L.length := by
    rcases Nat.lt_or_ge j L.length with h | h
    · exact h
    · rw [List.getElem?_eq_none (by rw [ints_length]; exact h)] at hu; cases hu
  have h3 : u = .int .u64 (L.getD j 0) := by
    simp [ints, List.getElem?_eq_getElem hj] at hu
    rw [← hu, List.getD_eq_getElem?_getD, List.getElem?_eq_getElem hj]; rfl
  rw [h3, ← hc j hj, addrN]
theorem ints_one (L : List Int) : ∀ u ∈ ints .u64 L, u.oneCell' = true := fun u hu => by
  obtain ⟨x, _, rfl⟩ := List.mem_map.1 hu
  rfl
end Go.Proofs.YtemoginoanhjlaaGreat
end
