/- The transform by the document: what it is, as numbers. -/
import Derived.Test.YtmalmijdjhkklaaGreatWClaimToFit16
import Derived.Test.YtmalmijdjhkklaaGreatWBitsRef02BRev
import Derived.Test.YtmalmijdjhkklaaGreatWAlgToGath
set_option linter.unusedVariables false
set_option linter.unusedSimpArgs false
set_option linter.unusedSectionVars false
section
/- The transform by the document: what it is, as numbers. -/
namespace Go.Proofs.YtmalmijdjhkklaaGreat
open Go.RowKit
/-- The document's root. -/
def rootR (p g n : Int) (inv : Bool) : Int := if inv then (g ^ ((p - 1) / n).toNat % p) ^ (n - 1).toNat % p else g ^ ((p - 1) / n).toNat % p
theorem rootR_range {p g n : Int} {inv : Bool} (hp : 1 ≤ p) : 0 ≤ rootR p g n inv ∧ rootR p g n inv < p := by
 unfold rootR
 split <;> exact ⟨Int.emod_nonneg _ (by omega), Int.emod_lt_of_pos _ (by omega)⟩
theorem ints_snocU (xs : List Int) (i : Nat) (h : i < xs.length) : ints .u64 (xs.take (i + 1)) = ints .u64 (xs.take i) ++ [.int .u64 (xs.getD i 0)] := by
 rw [List.take_succ_eq_append_getElem h, List.getD_eq_getElem?_getD, List.getElem?_eq_getElem h, ints, List.map_append]; rfl

/-- The document's sum: of the first k. -/
def sumR (p : Int) (T L : List Int) (i : Nat) : Nat → Int
 | 0 => 0
 | k + 1 => (sumR p T L i k + L.getD k 0 * T.getD (i * k % L.length) 0 % p) % p
theorem sumR_range {p : Int} (hp : 1 ≤ p) (T L : List Int) (i k : Nat) : 0 ≤ sumR p T L i k ∧ sumR p T L i k < p := by
 cases k with
 | zero => exact ⟨Int.le_refl _, by unfold sumR; omega⟩
 | succ k => exact ⟨Int.emod_nonneg _ (by omega), Int.emod_lt_of_pos _ (by omega)⟩
/-- The document's transform. -/
def runR (p g : Int) (L : List Int) (inv : Bool) : List Int :=
 full L.length fun i =>
  let s := sumR p (full L.length fun j => rootR p g L.length inv ^ j % p) L i L.length
  if inv then s * ((L.length : Int) ^ (p - 2).toNat % p) % p else s
theorem runR_length (p g : Int) (L : List Int) (inv : Bool) : (runR p g L inv).length = L.length := full_length _ _
theorem full_u64 {n : Nat} {f : Nat → Int} (h : ∀ i, i < n → 0 ≤ f i ∧ f i ≤ 18446744073709551615) : U64s (full n f) := fun x hx => by
 obtain ⟨i, hi, rfl⟩ := List.mem_map.1 hx
 exact h i (List.mem_range.1 hi)
end Go.Proofs.YtmalmijdjhkklaaGreat
end

section
/- field.Known. -/
namespace Go.Proofs.YtmalmijdjhkklaaGreat
open Go.RowKit
theorem known_no (i : Int) (w : World) (h : i < 0 ∨ 5 < i) :
    Calls Tryz.prog 98 #[.int .i64 i] w (KnownP [] 0 w) := by
  have h0 : (i == 0) = false := by simp; omega
  have h1 : (i == 1) = false := by simp; omega
  have h2 : (i == 2) = false := by simp; omega
  have h3 : (i == 3) = false := by simp; omega
  have h4 : (i == 4) = false := by simp; omega
  have h5 : (i == 5) = false := by simp; omega
  clear h
  go_enter Tryz.func98, Tryz.ntmps98
  go_wp2
  go_ret2
  refine ⟨none, 0, rfl, Nat.le_refl _, ?_, fun h => absurd h (by simp)⟩
  repeat (first | exact Below.refl _ _ | refine Below.alloc ?_ (by first | omega | (simp only [World.size_alloc]; omega)) _)

/-- The known primes, and the numbers whose powers are all. -/
def knownPG (i : Int) : Int × Int := if i = 0 then (k0.p, 3) else if i = 1 then (k1.p, 5) else if i = 2 then (k2.p, 6) else if i = 3 then (k3.p, 11) else if i = 4 then (k4.p, 3) else if i = 5 then (k5.p, 3) else (0, 0)
theorem knownPG_in {i : Int} (h : 0 ≤ i ∧ i ≤ 5) : i = 0 ∨ i = 1 ∨ i = 2 ∨ i = 3 ∨ i = 4 ∨ i = 5 := by omega
theorem known_ok {i : Int} (h : 0 ≤ i ∧ i ≤ 5) : (knownE i).length ≤ 4 ∧ AllRight (knownE i) ∧ (∀ e ∈ knownE i, EntOk e) ∧ FirstE (knownE i) (knownPG i).1 (knownPG i).2 := by
  have hE : ∀ (es : List Ent), es.all (fun e => decide (0 ≤ e.p) && decide (e.p ≤ 18446744073709551615) && decide (0 ≤ e.g) && decide (e.g ≤ 18446744073709551615) && decide (e.fs.length ≤ 8796093022208) && e.fs.all (fun x => decide (0 ≤ x.1) && decide (x.1 ≤ 18446744073709551615) && decide (-9223372036854775808 ≤ x.2) && decide (x.2 ≤ 9223372036854775807))) = true → ∀ e ∈ es, EntOk e := by
    intro es h e he
    simp only [List.all_eq_true, Bool.and_eq_true, decide_eq_true_eq] at h
    obtain ⟨⟨⟨⟨⟨a, b⟩, c⟩, d⟩, f⟩, g⟩ := h e he
    exact ⟨a, b, c, d, f, fun x hx => by have := g x hx; omega⟩
  rcases knownPG_in h with rfl | rfl | rfl | rfl | rfl | rfl
  · exact ⟨by decide, allB_ok right0, hE _ (by decide), 3, by decide, by decide, by decide, by decide⟩
  · exact ⟨by decide, allB_ok right1, hE _ (by decide), 1, by decide, by decide, by decide, by decide⟩
  · exact ⟨by decide, allB_ok right2, hE _ (by decide), 1, by decide, by decide, by decide, by decide⟩
  · exact ⟨by decide, allB_ok right3, hE _ (by decide), 2, by decide, by decide, by decide, by decide⟩
  · exact ⟨by decide, allB_ok right4, hE _ (by decide), 2, by decide, by decide, by decide, by decide⟩
  · exact ⟨by decide, allB_ok right5, hE _ (by decide), 1, by decide, by decide, by decide, by decide⟩
theorem known_any (i : Int) (w : World) (h : 0 ≤ i ∧ i ≤ 5) :
    Calls Tryz.prog 98 #[.int .i64 i] w (KnownP (knownE i) (knownPG i).1 w) := by
  rcases knownPG_in h with rfl | rfl | rfl | rfl | rfl | rfl
  · exact known0_any w
  · exact known1_any w
  · exact known2_any w
  · exact known3_any w
  · exact known4_any w
  · exact known5_any w
theorem knownPG_pos {i : Int} (h : 0 ≤ i ∧ i ≤ 5) : 3 ≤ (knownPG i).1 := by
  rcases knownPG_in h with rfl | rfl | rfl | rfl | rfl | rfl <;> decide

/-- A row proves this prime, and names this number. -/
def Cert (p g : Int) : Prop := ∃ es, AllRight es ∧ FirstE es p g
/-- What a maker of fields answers: none, and an error; or a field of this prime and number. -/
def MadeP (p g : Int) (w : World) (r : Ending) (w' : World) : Prop :=
  Below w.heap.size w w' ∧
  ((∃ er, p = 0 ∧ er ≠ 0 ∧ r = .returned (.tuple #[.pointer none, .int .i64 er])) ∨
   (∃ v, 3 ≤ p ∧ Cert p g ∧ r = .returned (.tuple #[v, .int .i64 0]) ∧ Fd w' w'.heap.size v p g))
set_option maxHeartbeats 1000000 in
theorem Known_any (i : Int) (w : World) :
    Calls Tryz.prog 50 #[.int .i64 i] w (MadeP (knownPG i).1 (knownPG i).2 w) := by
  by_cases h : 0 ≤ i ∧ i ≤ 5
  · obtain ⟨hl, hA, hE, hF⟩ := known_ok h
    have hk := fun w => known_any i w h
    have hp := knownPG_pos h
    generalize knownE i = es at *
    obtain ⟨p, hpe⟩ : ∃ p, p = (knownPG i).1 := ⟨_, rfl⟩
    obtain ⟨g, hge⟩ : ∃ g, g = (knownPG i).2 := ⟨_, rfl⟩
    rw [← hpe, ← hge]
    rw [← hpe] at hk hp hF
    rw [← hge] at hF
    clear hpe hge h
    have HA := Lib.hid hA
    have HE := Lib.hid hE
    have HF := Lib.hid hF
    clear hA hE hF
    have tp : (p == 0) = false := by simp; omega
    go_enter Tryz.func50, Tryz.ntmps50
    go_wp2_with fail
    refine (hk w).mono ?_
    rintro r w1 ⟨A, c, rfl, hlc, hB1, hR⟩
    go_wp2_with fail
    refine (fnew_any A c es p w1 (by omega) hlc hR HE.out).mono ?_
    rintro r w2 ⟨hB2, hN⟩
    have hB := hB1.trans (hB2.mono hB1.size)
    rcases hN with ⟨er, h1, _⟩ | ⟨_, h1, _⟩ | ⟨v, g', h1, hF', rfl, hFd⟩
    · exact absurd HA.out h1
    · obtain ⟨k, hk1, hk2, _⟩ := HF.out
      exact absurd hk2 (h1 _ (by rw [List.getD_eq_getElem?_getD, List.getElem?_eq_getElem hk1]; simp))
    · have hg : g' = g := by
        obtain ⟨a, a1, a2, a3, a4⟩ := HF.out
        obtain ⟨b, b1, b2, b3, b4⟩ := hF'
        have : a = b := by
          rcases Nat.lt_trichotomy a b with h | h | h
          · exact absurd a2 (b4 a h)
          · exact h
          · exact absurd b2 (a4 b h)
        subst this
        rw [← a3, ← b3]
      subst hg
      clear hF' hk hB1 hB2 hR
      go_wp2
      go_ret2
      exact ⟨hB, .inr ⟨v, hp, ⟨es, HA.out, HF.out⟩, rfl, hFd⟩⟩
  · have hz : knownPG i = (0, 0) := by
      unfold knownPG
      rw [if_neg (by omega), if_neg (by omega), if_neg (by omega), if_neg (by omega), if_neg (by omega), if_neg (by omega)]
    rw [hz]
    have hk := fun w => known_no i w (by omega)
    clear h hz
    go_enter Tryz.func50, Tryz.ntmps50
    go_wp2_with fail
    refine (hk w).mono ?_
    rintro r w1 ⟨A, c, rfl, hlc, hB1, hR⟩
    go_wp2
    go_ret2
    exact ⟨hB1, .inl ⟨1, rfl, by decide, rfl⟩⟩
end Go.Proofs.YtmalmijdjhkklaaGreat
end

section
/- A row that is right: its numbers are primes, and the numbers named have all powers. -/
namespace Go.Proofs.YtmalmijdjhkklaaGreat
open Alg

theorem prodI_nat {fs : List (Int × Int)} (h : ∀ x ∈ fs, 1 ≤ x.1) {q : Nat} (hq : Prime q) (hd : q ∣ (prodI fs).toNat) : ∃ x ∈ fs, q ∣ x.1.toNat := by
 induction fs with
 | nil =>
  have h1 : (prodI []).toNat = 1 := rfl
  rw [h1] at hd
  have := hq.1
  have := Nat.le_of_dvd (by omega) hd
  omega
 | cons x t ih =>
  have hx : 1 ≤ x.1 := h x (by simp)
  have ht : 1 ≤ prodI t := prodI_pos fun y hy => h y (by simp [hy])
  have e : (prodI (x :: t)).toNat = x.1.toNat ^ x.2.toNat * (prodI t).toNat := by
   rw [prodI, Int.toNat_mul (Int.le_of_lt (Int.pow_pos (by omega))) (by omega)]
   congr 1
   obtain ⟨a, ha⟩ := Int.eq_ofNat_of_zero_le (show 0 ≤ x.1 by omega)
   rw [ha, ← Int.natCast_pow]
   rfl
  rw [e] at hd
  rcases hq.dvd_mul hd with h1 | h1
  ·exact ⟨x, by simp, hq.dvd_pow h1⟩
  ·obtain ⟨y, hy, hd'⟩ := ih (fun y hy => h y (by simp [hy])) h1
   exact ⟨y, by simp [hy], hd'⟩
theorem zt_pow_oneI {p : Nat} [NeZero p] (hp : 2 ≤ p) (g : Int) (k : Nat) : (g ^ k) % (p : Int) = 1 ↔ pw (zt p g) k = 1 := by
 rw [← zt_pow, ← zt_one, zt_eq]
 rw [Int.emod_eq_of_lt (show (0 : Int) ≤ 1 by omega) (by omega)]
theorem right_prime {ahead : List Ent} {e : Ent} (h : RightP ahead e) (hA : ∀ x ∈ ahead, Prime x.p.toNat) : Prime e.p.toNat ∧ ∀ [NeZero e.p.toNat], Ord (zt e.p.toNat e.g) (e.p.toNat - 1) := by
 have p3 := h.p3
 have hpe : ((e.p.toNat : Nat) : Int) = e.p := by omega
 have hfp : ∀ k, k < e.fs.length → Prime (e.fs.getD k (0, 0)).1.toNat := fun k hk => by
  cases k with
  | zero =>
   rw [h.whole.two]
   exact ⟨by decide, fun d hd => by
    have := Nat.le_of_dvd (by decide) hd
    have h2 : (2 : Int).toNat = 2 := rfl
    rw [h2] at this hd ⊢
    have : d = 0 ∨ d = 1 ∨ d = 2 := by omega
    rcases this with rfl | rfl | rfl
    ·omega
    ·exact .inl rfl
    ·exact .inr rfl⟩
  | succ k =>
   obtain ⟨x, hx, hxe⟩ := List.any_eq_true.1 (h.whole.rise k hk).2
   rw [← (beq_iff_eq.1 hxe)]
   exact hA x hx
 haveI hne : NeZero e.p.toNat := ⟨by omega⟩
 have hord : Ord (zt e.p.toNat e.g) (e.p.toNat - 1) := by
  refine lucas (by omega) ?_ ?_
  ·rw [← zt_pow_oneI (by omega), hpe, show e.p.toNat - 1 = (e.p - 1).toNat by omega]
   exact h.full.one
  ·intro q hq hd
   have hd' : q ∣ (prodI e.fs).toNat := by rw [h.whole.prod, show (e.p - 1).toNat = e.p.toNat - 1 by omega]; exact hd
   obtain ⟨x, hx, hqx⟩ := prodI_nat h.whole.pos hq hd'
   obtain ⟨k, hk, rfl⟩ := List.getElem_of_mem hx
   have e1 : e.fs.getD k (0, 0) = e.fs[k] := by simp [List.getD_eq_getElem?_getD, List.getElem?_eq_getElem hk]
   have hk2 := hfp k hk
   have h2 := h.whole.two_le k hk
   rw [e1] at hk2 h2
   have hqe := hq.eq_of_dvd hk2 hqx
   intro hc
   refine h.full.no _ hx ?_
   rw [← zt_pow_oneI (by omega)] at hc
   rw [hpe] at hc
   rw [show ((e.p - 1) / e.fs[k].1).toNat = (e.p.toNat - 1) / q by
    rw [hqe]
    have hx0 : ((e.fs[k].1.toNat : Nat) : Int) = e.fs[k].1 := by omega
    rw [← hx0, show e.p - 1 = ((e.p.toNat - 1 : Nat) : Int) by omega, ← Int.natCast_ediv, Int.toNat_natCast]
    rw [Int.toNat_natCast]]
   exact hc
 exact ⟨prime_of_ord (by omega) hord, fun {_} => hord⟩
theorem allRight_prime {es : List Ent} (h : ∀ j, j < es.length → RightP (es.take j) (es.getD j Ent.none)) : ∀ j, j < es.length → Prime (es.getD j Ent.none).p.toNat := by
 intro j
 induction j using Nat.strongRecOn with
 | _ j ih =>
  intro hj
  refine (right_prime (h j hj) fun x hx => ?_).1
  obtain ⟨i, hi, rfl⟩ := List.getElem_of_mem hx
  rw [List.length_take] at hi
  have := ih i (by omega) (by omega)
  rw [List.getElem_take]
  simpa only [List.getD_eq_getElem?_getD, List.getElem?_eq_getElem (show i < es.length by omega), Option.getD_some] using this
theorem Cert.prime {p g : Int} (h : Cert p g) : Prime p.toNat ∧ ∀ [NeZero p.toNat], Ord (zt p.toNat g) (p.toNat - 1) := by
 obtain ⟨es, hA, k, hk, rfl, rfl, _⟩ := h
 refine right_prime (hA.2 k hk) fun x hx => ?_
 obtain ⟨i, hi, rfl⟩ := List.getElem_of_mem hx
 rw [List.length_take] at hi
 have := allRight_prime hA.2 i (by omega)
 rw [List.getElem_take]
 simpa only [List.getD_eq_getElem?_getD, List.getElem?_eq_getElem (show i < es.length by omega), Option.getD_some] using this
theorem Cert.gr {p g : Int} (h : Cert p g) : 2 ≤ g ∧ g < p := by
 obtain ⟨es, hA, k, hk, rfl, rfl, _⟩ := h
 exact ⟨(hA.2 k hk).g2, (hA.2 k hk).gp⟩
end Go.Proofs.YtmalmijdjhkklaaGreat
end

section
/- Lists of residues; the document's transform is that of the residues. -/
namespace Go.Proofs.YtmalmijdjhkklaaGreat
open Go.RowKit
open Alg

set_option linter.unusedSectionVars false
section
variable {p : Nat} [NeZero p]
/-- A row of residues. -/
def lst (n : Nat) (f : Nat → Fin p) : List Int := full n fun i => ((f i).val : Int)
theorem lst_length (n : Nat) (f : Nat → Fin p) : (lst n f).length = n := full_length _ _
theorem lst_get {n : Nat} {f : Nat → Fin p} {i : Nat} (hi : i < n) : (lst n f).getD i 0 = ((f i).val : Int) := full_get hi
theorem full_congr {n : Nat} {f g : Nat → Int} (h : ∀ i, i < n → f i = g i) : full n f = full n g := List.map_congr_left fun i hi => h i (List.mem_range.1 hi)
theorem lst_congr {n : Nat} {f g : Nat → Fin p} (h : ∀ i, i < n → f i = g i) : lst n f = lst n g := full_congr fun i hi => by rw [h i hi]
theorem lst_u64 (hp : (p : Int) < 9223372036854775808) (n : Nat) (f : Nat → Fin p) : U64s (lst n f) := full_u64 fun i _ => by have := (f i).isLt; omega
theorem lst_good (n : Nat) (f : Nat → Fin p) : goodB p (lst n f) = true := by
 unfold goodB
 rw [List.all_eq_true]
 intro x hx
 obtain ⟨i, _, rfl⟩ := List.mem_map.1 hx
 have := (f i).isLt
 simp
/-- A list's residues. -/
def rz (p : Nat) [NeZero p] (L : List Int) (i : Nat) : Fin p := zt p (L.getD i 0)
theorem zt_range {x : Int} (h0 : 0 ≤ x) (h1 : x < p) : ((zt p x).val : Int) = x := by rw [zt_val, Int.emod_eq_of_lt h0 h1]
theorem lst_rz {L : List Int} (hL : goodB p L = true) (hU : U64s L) : lst L.length (rz p L) = L := by
 apply List.ext_getElem
 ·rw [lst_length]
 ·intro i h1 h2
  have hg : L[i] < (p : Int) := by
   unfold goodB at hL
   simpa using List.all_eq_true.1 hL L[i] (List.getElem_mem h2)
  simp only [lst, full, List.getElem_map, List.getElem_range, rz, List.getD_eq_getElem?_getD, List.getElem?_eq_getElem h2, Option.getD_some]
  exact zt_range (hU _ (List.getElem_mem h2)).1 hg
theorem rz_lst {n : Nat} {f : Nat → Fin p} {i : Nat} (hi : i < n) : rz p (lst n f) i = f i := by
 unfold rz
 rw [lst_get hi, zt_of_val]
theorem ev_add (x y : Int) : (x + y) % (p : Int) = ((zt p x + zt p y).val : Int) := by rw [← zt_add, zt_val]
theorem ev_sub (x y : Int) : (x - y) % (p : Int) = ((zt p x - zt p y).val : Int) := by rw [← zt_sub, zt_val]
theorem ev_mul (x y : Int) : x * y % (p : Int) = ((zt p x * zt p y).val : Int) := by rw [← zt_mul, zt_val]

/-- The transform's root, scale, and numbers. -/
def rt (g : Fin p) (n : Nat) (inv : Bool) : Fin p := if inv then pw (pw g ((p - 1) / n)) (n - 1) else pw g ((p - 1) / n)
def sc (p : Nat) [NeZero p] (n : Nat) (inv : Bool) : Fin p := if inv then pw (zt p (n : Int)) (p - 2) else 1
def tr (g : Fin p) (n : Nat) (inv : Bool) (a : Nat → Fin p) (i : Nat) : Fin p := sc p n inv * dft (rt g n inv) n a i
theorem ord_div {a : Fin p} {N n : Nat} (h : Ord a N) (hn : n ∣ N) (h0 : 0 < n) : Ord (pw a (N / n)) n := by
 obtain ⟨k, rfl⟩ := hn
 rw [Nat.mul_div_cancel_left _ h0]
 refine ⟨h0, by rw [← pw_mul, Nat.mul_comm]; exact h.2.1, fun m h1 h2 h3 => ?_⟩
 rw [← pw_mul] at h3
 have hk : 0 < k := by
  rcases Nat.eq_zero_or_pos k with e | e
  ·subst e; have := h.1; simp at this
  ·exact e
 exact h.2.2 (k * m) (Nat.mul_pos hk h1) (by rw [Nat.mul_comm n k]; exact Nat.mul_lt_mul_of_pos_left h2 hk) h3
theorem ord_inv {w v : Fin p} {n : Nat} (hw : Ord w n) (hv : w * v = 1) : Ord v n := by
 have hvn : ∀ k, pw w k * pw v k = 1 := fun k => by rw [← mul_pw, hv, one_pw]
 refine ⟨hw.1, by have := hvn n; rw [hw.2.1] at this; grind, fun m h0 h1 h2 => hw.2.2 m h0 h1 ?_⟩
 have := hvn m
 rw [h2] at this; grind
theorem pw_last {w : Fin p} {n : Nat} (hw : Ord w n) : w * pw w (n - 1) = 1 := by
 have h1 := hw.2.1
 rw [show n = (n - 1) + 1 by have := hw.1; omega, pw_succ] at h1
 rw [← h1]; grind
theorem rt_ord {g : Fin p} {n : Nat} (hg : Ord g (p - 1)) (hn : n ∣ p - 1) (h0 : 0 < n) (inv : Bool) : Ord (rt g n inv) n := by
 have h := ord_div hg hn h0
 cases inv with
 | false => exact h
 | true => exact ord_inv h (pw_last h)
theorem chk_dvd {n : Nat} {most : Int} (hp : 1 ≤ p) (h : chk p n most = 0) : n ∣ p - 1 ∧ 0 < n := by
 obtain ⟨a, b, c⟩ := chk_zero h
 refine ⟨?_, by omega⟩
 have : ((p - 1 : Nat) : Int) = (p : Int) - 1 := by omega
 rw [← this, ← Int.natCast_emod] at c
 exact Nat.dvd_of_mod_eq_zero (by omega)
theorem rootR_zt {n : Nat} (g : Int) (inv : Bool) (hp : 1 ≤ p) : zt p (rootR p g n inv) = rt (zt p g) n inv := by
 have e : (((p : Int) - 1) / (n : Int)).toNat = (p - 1) / n := by
  rw [show (p : Int) - 1 = ((p - 1 : Nat) : Int) by omega, ← Int.natCast_ediv, Int.toNat_natCast]
 cases inv with
 | false =>
  show zt p (g ^ (((p : Int) - 1) / (n : Int)).toNat % (p : Int)) = _
  rw [zt_emod, zt_pow, e]; rfl
 | true =>
  show zt p ((g ^ (((p : Int) - 1) / (n : Int)).toNat % (p : Int)) ^ ((n : Int) - 1).toNat % (p : Int)) = _
  rw [zt_emod, zt_pow, zt_emod, zt_pow, e, show ((n : Int) - 1).toNat = n - 1 by omega]; rfl
theorem sumR_zt (W : Int) (L : List Int) (i : Nat) (hW : pw (zt p W) L.length = 1) : ∀ k, k ≤ L.length → zt p (sumR p (full L.length fun j => W ^ j % (p : Int)) L i k) = sm k (fun j => pw (zt p W) (i * j) * rz p L j) := by
 intro k
 induction k with
 | zero => intro _; exact zt_zero
 | succ k ih =>
  intro hk
  have hm : i * k % L.length < L.length := Nat.mod_lt _ (by omega)
  rw [sm_succ, ← ih (by omega), sumR, zt_emod, zt_add, zt_emod, zt_mul, full_get hm, zt_emod, zt_pow, ← pw_mod hW]
  unfold rz; grind
theorem runR_eq {g : Int} {L : List Int} (inv : Bool) (h3 : 3 ≤ p) (hg : Ord (zt p g) (p - 1)) (hn : chk p L.length 4096 = 0) :
  runR p g L inv = lst L.length (tr (zt p g) L.length inv (rz p L)) := by
 obtain ⟨hd, h0⟩ := chk_dvd (by omega) hn
 have hW : pw (zt p (rootR p g L.length inv)) L.length = 1 := by rw [rootR_zt g inv (by omega)]; exact (rt_ord hg hd h0 inv).2.1
 refine full_congr fun i hi => ?_
 have hs := sumR_zt (rootR p g L.length inv) L i hW L.length (Nat.le_refl _)
 have hr := sumR_range (p := (p : Int)) (by omega) (full L.length fun j => rootR p g L.length inv ^ j % (p : Int)) L i L.length
 rw [rootR_zt g inv (by omega)] at hs
 cases inv with
 | false =>
  rw [if_neg (by simp)]
  have : tr (zt p g) L.length false (rz p L) i = dft (rt (zt p g) L.length false) L.length (rz p L) i := by
   show (1 : Fin p) * _ = _; grind
  rw [this]
  unfold dft
  rw [← hs, zt_range hr.1 hr.2]
 | true =>
  rw [if_pos rfl, ev_mul, hs, zt_emod, zt_pow, show ((p : Int) - 2).toNat = p - 2 by omega]
  have : tr (zt p g) L.length true (rz p L) i = pw (zt p (L.length : Int)) (p - 2) * dft (rt (zt p g) L.length true) L.length (rz p L) i := rfl
  rw [this]
  unfold dft
  congr 2
  grind
/-- What makes 1 with a number, as residues. -/
theorem InvOf.unit {x t : Int} (hp : Prime p) (h : InvOf p x t) (hx : zt p x ≠ 0) : zt p t * zt p x = 1 := by
 rcases h with ⟨_, _, _, h⟩ | ⟨h, _⟩
 ·rw [← zt_mul, ← zt_one, zt_eq, h]
  have := hp.1
  rw [Int.emod_eq_of_lt (by omega) (by omega)]
 ·exfalso
  apply h
  rw [Int.toNat_natCast]
  refine hp.coprime fun hd => hx ?_
  have h1 := Int.emod_nonneg x (show (p : Int) ≠ 0 by have := hp.1; omega)
  have h2 := Int.emod_lt_of_pos x (show (0 : Int) < p by have := hp.1; omega)
  obtain ⟨c, hc⟩ := hd
  have : (x % (p : Int)).toNat = 0 := by
   rcases Nat.eq_zero_or_pos c with e | e
   ·subst e; simpa using hc
   ·have : p * 1 ≤ p * c := Nat.mul_le_mul_left _ e
    omega
  rw [← zt_zero, zt_eq]; simp; omega
theorem unit_uniq {x a b : Fin p} (ha : a * x = 1) (hb : b * x = 1) : a = b := by
 have h1 : a * x * b = b := by rw [ha]; grind
 have h2 : b * x * a = a := by rw [hb]; grind
 rw [← h1, ← h2]; grind
theorem RootOf.zt {n : Nat} {g W : Int} {inv : Bool} (hp : Prime p) (hg : Ord (zt p g) (p - 1)) (hd : n ∣ p - 1) (h0 : 0 < n) (h : RootOf p g n inv W) : zt p W = rt (zt p g) n inv := by
 have e : (((p : Int) - 1) / (n : Int)).toNat = (p - 1) / n := by
  have := hp.1
  rw [show (p : Int) - 1 = ((p - 1 : Nat) : Int) by omega, ← Int.natCast_ediv, Int.toNat_natCast]
 have ho := ord_div hg hd h0
 cases inv with
 | false => rw [h.1 rfl, zt_emod, zt_pow, e]; rfl
 | true =>
  have h1 := h.2 rfl
  rw [e] at h1
  have hz : Alg.zt p (g ^ ((p - 1) / n) % (p : Int)) = pw (Alg.zt p g) ((p - 1) / n) := by rw [zt_emod, zt_pow]
  have hne : Alg.zt p (g ^ ((p - 1) / n) % (p : Int)) ≠ 0 := by
   rw [hz]
   exact unit_ne_zero hp.1 (pw_last ho)
  have h2 := h1.unit hp hne
  rw [hz] at h2
  refine unit_uniq h2 ?_
  show pw _ (n - 1) * _ = 1
  have := pw_last ho
  grind
theorem zt_len_ne {n : Nat} (hp : Prime p) (hd : n ∣ p - 1) (h0 : 0 < n) : zt p (n : Int) ≠ 0 := fun h => by
 have := hp.1
 have h1 := Nat.le_of_dvd (by omega) hd
 rw [← zt_zero, zt_eq, Int.emod_eq_of_lt (by omega) (by omega)] at h
 simp at h; omega
theorem sc_of {n : Nat} {t : Int} (hp : Prime p) (hd : n ∣ p - 1) (h0 : 0 < n) (h : InvOf p n t) : zt p t = sc p n true := by
 have hne := zt_len_ne hp hd h0
 refine unit_uniq (h.unit hp hne) ?_
 show pw _ (p - 2) * _ = 1
 have h1 := fermat hp _ hne
 have := hp.1
 rw [show p - 1 = (p - 2) + 1 by omega, pw_succ] at h1
 exact h1
theorem sc_unit {n : Nat} (hp : Prime p) (hd : n ∣ p - 1) (h0 : 0 < n) : sc p n true * zt p (n : Int) = 1 := by
 have hne := zt_len_ne hp hd h0
 have h1 := fermat hp _ hne
 have := hp.1
 rw [show p - 1 = (p - 2) + 1 by omega, pw_succ] at h1
 exact h1
/-- There and back. -/
theorem tr_back {g : Fin p} {n : Nat} (hp : Prime p) (hg : Ord g (p - 1)) (hd : n ∣ p - 1) (h0 : 0 < n) (inv : Bool) (a : Nat → Fin p) (i : Nat) (hi : i < n) : tr g n (!inv) (tr g n inv a) i = a i := by
 have ho := ord_div hg hd h0
 have hu := sc_unit hp hd h0
 have hl := pw_last ho
 have hmul : ∀ (c : Fin p) (w : Fin p) (b : Nat → Fin p), dft w n (fun j => c * b j) i = c * dft w n b i := fun c w b => by
  unfold dft
  rw [← sm_mul]
  exact sm_congr fun j _ => by grind
 have hs : sc p n (!inv) * sc p n inv = sc p n true := by
  cases inv
  ·show sc p n true * 1 = _; grind
  ·show 1 * sc p n true = _; grind
 show sc p n (!inv) * dft (rt g n (!inv)) n (fun j => sc p n inv * dft (rt g n inv) n a j) i = a i
 rw [hmul]
 have hb : dft (rt g n (!inv)) n (dft (rt g n inv) n a) i = zt p (n : Int) * a i := by
  cases inv with
  | false => exact dft_back hp ho hl a i hi
  | true => exact dft_back hp (ord_inv ho hl) ((Fin.mul_comm _ _).trans hl) a i hi
 have : sc p n (!inv) * (sc p n inv * dft (rt g n (!inv)) n (dft (rt g n inv) n a) i) = (sc p n (!inv) * sc p n inv * zt p (n : Int)) * a i := by rw [hb]; grind
 rw [this, hs, hu]; grind
end
end Go.Proofs.YtmalmijdjhkklaaGreat
end

section
/- Transforms by halves: the stages, upward and downward; bits turned about. -/
set_option linter.unusedVariables false
set_option linter.unusedSectionVars false
namespace Go.Proofs.YtmalmijdjhkklaaGreat
open Alg
section
variable {p : Nat} [NeZero p]
/-- One stage: blocks of S, two and two, are put together. -/
def upF (w : Fin p) (S st : Nat) (F : Nat → Fin p) (i : Nat) : Fin p :=
 if i % (2 * S) < S then F i + pw w (i % (2 * S) * st) * F (i + S) else F (i - S) - pw w ((i % (2 * S) - S) * st) * F i
/-- One stage: blocks of 2 S are parted. -/
def dnF (w : Fin p) (S st : Nat) (F : Nat → Fin p) (i : Nat) : Fin p :=
 if i % (2 * S) < S then F i + F (i + S) else pw w ((i % (2 * S) - S) * st) * (F (i - S) - F i)
theorem blk_mod {b S j : Nat} (h : j < 2 * S) : (b * (2 * S) + j) % (2 * S) = j := by
 rw [Nat.add_comm, Nat.add_mul_mod_self_right, Nat.mod_eq_of_lt h]
theorem upF_lo {w : Fin p} {S st b j : Nat} {F : Nat → Fin p} (hj : j < S) : upF w S st F (b * (2 * S) + j) = F (b * (2 * S) + j) + pw w (j * st) * F (b * (2 * S) + j + S) := by
 unfold upF; rw [blk_mod (by omega), if_pos hj]
theorem upF_hi {w : Fin p} {S st b j : Nat} {F : Nat → Fin p} (hj : j < S) : upF w S st F (b * (2 * S) + j + S) = F (b * (2 * S) + j) - pw w (j * st) * F (b * (2 * S) + j + S) := by
 unfold upF
 rw [show b * (2 * S) + j + S = b * (2 * S) + (j + S) by omega, blk_mod (by omega), if_neg (by omega), show j + S - S = j by omega, show b * (2 * S) + (j + S) - S = b * (2 * S) + j by omega]
theorem dnF_lo {w : Fin p} {S st b j : Nat} {F : Nat → Fin p} (hj : j < S) : dnF w S st F (b * (2 * S) + j) = F (b * (2 * S) + j) + F (b * (2 * S) + j + S) := by
 unfold dnF; rw [blk_mod (by omega), if_pos hj]
theorem dnF_hi {w : Fin p} {S st b j : Nat} {F : Nat → Fin p} (hj : j < S) : dnF w S st F (b * (2 * S) + j + S) = pw w (j * st) * (F (b * (2 * S) + j) - F (b * (2 * S) + j + S)) := by
 unfold dnF
 rw [show b * (2 * S) + j + S = b * (2 * S) + (j + S) by omega, blk_mod (by omega), if_neg (by omega), show j + S - S = j by omega, show b * (2 * S) + (j + S) - S = b * (2 * S) + j by omega]
/-- What stands behind s stages upward, of 2^k numbers. -/
def upN (w : Fin p) (a : Nat → Fin p) (k : Nat) : Nat → Nat → Fin p
 | 0 => fun i => a (rev k i)
 | s + 1 => upF w (2 ^ s) (2 ^ (k - (s + 1))) (upN w a k s)
/-- What stands behind t stages downward. -/
def dnN (w : Fin p) (a : Nat → Fin p) (k : Nat) : Nat → Nat → Fin p
 | 0 => a
 | t + 1 => dnF w (2 ^ (k - (t + 1))) (2 ^ t) (dnN w a k t)
theorem pow_half {w : Fin p} {k s t : Nat} (hp : Prime p) (hw : Ord w (2 ^ k)) (h : k = s + t + 1) : pw (pw w (2 ^ t)) (2 ^ s) = -1 := by
 rw [← pw_mul, ← Nat.pow_add]
 refine half_neg hp hw ?_
 rw [h, Nat.pow_succ, Nat.add_comm s t]; omega
theorem pow_sq (w : Fin p) (t : Nat) : pw w (2 ^ t) * pw w (2 ^ t) = pw w (2 ^ (t + 1)) := by
 rw [← pw_add, Nat.pow_succ]; congr 1; omega
theorem upN_eq {w : Fin p} {k : Nat} (hp : Prime p) (hw : Ord w (2 ^ k)) (a : Nat → Fin p) : ∀ (s t : Nat), s + t = k → ∀ b i, b < 2 ^ t → i < 2 ^ s →
  upN w a k s (b * 2 ^ s + i) = dft (pw w (2 ^ t)) (2 ^ s) (fun j => a (rev t b + 2 ^ t * j)) i := by
 intro s
 induction s with
 | zero =>
  intro t ht b i hb hi
  have h0 : i = 0 := by simpa using hi
  have h1 : t = k := by omega
  subst h0; subst h1
  rw [Nat.pow_zero, dft_one, Nat.mul_one, Nat.add_zero, Nat.mul_zero, Nat.add_zero]; rfl
 | succ s ih =>
  intro t ht b i hb hi
  have e1 : k - (s + 1) = t := by omega
  have hm1 := pow_half (s := s) (t := t) hp hw (by omega)
  have hE := ih (t + 1) (by omega) (2 * b)
  have hO := ih (t + 1) (by omega) (2 * b + 1)
  have hb2 : 2 * b + 1 < 2 ^ (t + 1) := by rw [Nat.pow_succ]; omega
  have eA : (fun j => a (rev (t + 1) (2 * b) + 2 ^ (t + 1) * j)) = fun j => a (rev t b + 2 ^ t * (2 * j)) := by
   funext j; rw [rev_even, Nat.pow_succ, Nat.mul_assoc]
  have eB : (fun j => a (rev (t + 1) (2 * b + 1) + 2 ^ (t + 1) * j)) = fun j => a (rev t b + 2 ^ t * (2 * j + 1)) := by
   funext j; rw [rev_odd, Nat.pow_succ, Nat.mul_assoc, Nat.mul_add, Nat.mul_one]; congr 1; omega
  rw [Nat.pow_succ, Nat.mul_comm (2 ^ s) 2]
  rw [eA] at hE
  rw [eB] at hO
  have i1 : 2 * b * 2 ^ s = b * (2 * 2 ^ s) := by rw [Nat.mul_comm 2 b, Nat.mul_assoc]
  have i2 : (2 * b + 1) * 2 ^ s = b * (2 * 2 ^ s) + 2 ^ s := by rw [Nat.add_mul, i1, Nat.one_mul]
  rw [i1] at hE
  rw [i2] at hO
  rw [upN, e1]
  rcases Nat.lt_or_ge i (2 ^ s) with h | h
  ·have hO1 := hO i hb2 h
   rw [show b * (2 * 2 ^ s) + 2 ^ s + i = b * (2 * 2 ^ s) + i + 2 ^ s by omega] at hO1
   rw [upF_lo h, hE i (by omega) h, hO1, dft_up_low, pow_sq, ← pw_mul, Nat.mul_comm (2 ^ t) i]
  ·obtain ⟨j, rfl⟩ : ∃ j, i = j + 2 ^ s := ⟨i - 2 ^ s, by omega⟩
   have hj : j < 2 ^ s := by rw [Nat.pow_succ] at hi; omega
   have hO1 := hO j hb2 hj
   rw [show b * (2 * 2 ^ s) + 2 ^ s + j = b * (2 * 2 ^ s) + j + 2 ^ s by omega] at hO1
   rw [← Nat.add_assoc, upF_hi hj, hE j (by omega) hj, hO1, dft_up_high hm1, pow_sq, ← pw_mul, Nat.mul_comm (2 ^ t) j]
theorem upN_all {w : Fin p} {k : Nat} (hp : Prime p) (hw : Ord w (2 ^ k)) (a : Nat → Fin p) (i : Nat) (hi : i < 2 ^ k) : upN w a k k i = dft w (2 ^ k) a i := by
 have h := upN_eq hp hw a k 0 (by omega) 0 i (by simp) hi
 rw [Nat.zero_mul, Nat.zero_add, Nat.pow_zero, pw_one] at h
 rw [h]
 exact dft_congr (fun j _ => by rw [Nat.one_mul, rev, Nat.zero_add]) i
theorem dnN_eq {w : Fin p} {k : Nat} (hp : Prime p) (hw : Ord w (2 ^ k)) (a : Nat → Fin p) : ∀ (t s : Nat), s + t = k → ∀ b i, b < 2 ^ t → i < 2 ^ s →
  dft w (2 ^ k) a (rev t b + 2 ^ t * i) = dft (pw w (2 ^ t)) (2 ^ s) (fun j => dnN w a k t (b * 2 ^ s + j)) i := by
 intro t
 induction t with
 | zero =>
  intro s hs b i hb hi
  have h0 : b = 0 := by simpa using hb
  have h1 : s = k := by omega
  subst h0; subst h1
  rw [Nat.pow_zero, pw_one, Nat.one_mul, rev, Nat.zero_add, Nat.zero_mul]
  exact dft_congr (fun j _ => by rw [Nat.zero_add]; rfl) i
 | succ t ih =>
  intro s hs b' i hb hi
  have e1 : k - (t + 1) = s := by omega
  have hm1 := pow_half (s := s) (t := t) hp hw (by omega)
  obtain ⟨b, e, he, rfl⟩ : ∃ b e, e < 2 ∧ b' = 2 * b + e := ⟨b' / 2, b' % 2, Nat.mod_lt _ (by omega), by omega⟩
  have hb2 : b < 2 ^ t := by rw [Nat.pow_succ] at hb; omega
  have hi2 : 2 * i + e < 2 ^ (s + 1) := by rw [Nat.pow_succ]; omega
  have hI := ih (s + 1) (by omega) b (2 * i + e) hb2 hi2
  rw [Nat.pow_succ 2 s, Nat.mul_comm (2 ^ s) 2] at hI
  have i1 : 2 * b * 2 ^ s = b * (2 * 2 ^ s) := by rw [Nat.mul_comm 2 b, Nat.mul_assoc]
  rw [← pow_sq]
  rcases (show e = 0 ∨ e = 1 by omega) with h | h
  ·subst h
   simp only [Nat.add_zero] at hI ⊢
   rw [rev_even, show 2 ^ (t + 1) * i = 2 ^ t * (2 * i) by rw [Nat.pow_succ, Nat.mul_assoc], hI, dft_down_even hm1, i1]
   refine dft_congr (fun j hj => ?_) i
   rw [dnN, e1, dnF_lo hj, Nat.add_assoc]
  ·subst h
   rw [rev_odd, show 2 ^ t + rev t b + 2 ^ (t + 1) * i = rev t b + 2 ^ t * (2 * i + 1) by rw [Nat.pow_succ, Nat.mul_assoc, Nat.mul_add, Nat.mul_one]; omega, hI, dft_down_odd hm1]
   refine dft_congr (fun j hj => ?_) i
   rw [dnN, e1, show (2 * b + 1) * 2 ^ s + j = b * (2 * 2 ^ s) + j + 2 ^ s by rw [Nat.add_mul, i1, Nat.one_mul]; omega, dnF_hi hj, ← pw_mul, Nat.mul_comm (2 ^ t) j, Nat.add_assoc]
theorem dnN_all {w : Fin p} {k : Nat} (hp : Prime p) (hw : Ord w (2 ^ k)) (a : Nat → Fin p) (b : Nat) (hb : b < 2 ^ k) : dnN w a k k b = dft w (2 ^ k) a (rev k b) := by
 have h := dnN_eq hp hw a k 0 (by omega) b 0 hb (by simp)
 rw [Nat.mul_zero, Nat.add_zero, Nat.pow_zero, dft_one, Nat.mul_one, Nat.add_zero] at h
 exact h.symm

/-- The number of the pair that a place belongs to. -/
def hx (S i : Nat) : Nat := i / (2 * S) * S + i % S
theorem hx_lo {S b j : Nat} (hj : j < S) : hx S (b * (2 * S) + j) = b * S + j := by
 unfold hx
 rw [Nat.add_comm (b * (2 * S)) j, Nat.add_mul_div_right _ _ (by omega), Nat.div_eq_of_lt (by omega), Nat.zero_add, ← Nat.mul_assoc, Nat.add_mul_mod_self_right, Nat.mod_eq_of_lt hj]
theorem hx_hi {S b j : Nat} (hj : j < S) : hx S (b * (2 * S) + j + S) = b * S + j := by
 unfold hx
 rw [Nat.add_assoc, Nat.add_comm (b * (2 * S)) (j + S), Nat.add_mul_div_right _ _ (by omega), Nat.div_eq_of_lt (by omega), Nat.zero_add, ← Nat.mul_assoc, Nat.add_mul_mod_self_right, Nat.add_mod_right, Nat.mod_eq_of_lt hj]
theorem hx_inv {S b j i : Nat} (hj : j < S) (h : hx S i = b * S + j) : i = b * (2 * S) + j ∨ i = b * (2 * S) + j + S := by
 unfold hx at h
 have h0 : i % S < S := Nat.mod_lt _ (by omega)
 have hq : i / (2 * S) = b := by
  have h1 : (i / (2 * S) * S + i % S) / S = i / (2 * S) := by rw [Nat.add_comm, Nat.add_mul_div_right _ _ (by omega), Nat.div_eq_of_lt h0, Nat.zero_add]
  have h2 : (b * S + j) / S = b := by rw [Nat.add_comm, Nat.add_mul_div_right _ _ (by omega), Nat.div_eq_of_lt hj, Nat.zero_add]
  rw [← h1, h, h2]
 have hr : i % S = j := by rw [hq] at h; omega
 have hd := Nat.div_add_mod i (2 * S)
 have hm : i % (2 * S) < 2 * S := Nat.mod_lt _ (by omega)
 have hmm : i % (2 * S) % S = j := by rw [Nat.mod_mod_of_dvd _ ⟨2, by omega⟩, hr]
 rw [hq, Nat.mul_comm] at hd
 obtain ⟨m, hme⟩ : ∃ m, m = i % (2 * S) := ⟨_, rfl⟩
 rw [← hme] at hd hm hmm
 rcases Nat.lt_or_ge m S with h1 | h1
 ·rw [Nat.mod_eq_of_lt h1] at hmm; omega
 ·rw [Nat.mod_eq_sub_mod h1, Nat.mod_eq_of_lt (by omega)] at hmm; omega
/-- The row behind c pairs of a stage. -/
def brow (F F' : Nat → Fin p) (S n c : Nat) : List Int := full n fun i => if hx S i < c then ((F' i).val : Int) else ((F i).val : Int)
theorem brow_zero (F F' : Nat → Fin p) (S n : Nat) : brow F F' S n 0 = lst n F := full_congr fun i _ => by rw [if_neg (by omega)]
theorem brow_full {F F' : Nat → Fin p} {S B : Nat} (hS : 0 < S) : brow F F' S (B * (2 * S)) (B * S) = lst (B * (2 * S)) F' := full_congr fun i hi => by
 have h1 : i / (2 * S) < B := (Nat.div_lt_iff_lt_mul (by omega)).2 hi
 have h2 : i % S < S := Nat.mod_lt _ hS
 have h3 : (i / (2 * S) + 1) * S ≤ B * S := Nat.mul_le_mul_right _ h1
 rw [if_pos (by unfold hx; rw [Nat.add_mul, Nat.one_mul] at h3; omega)]
theorem full_set2 {n : Nat} {f f' : Nat → Int} {i0 i1 : Nat} {x0 x1 : Int} (h0 : f' i0 = x0) (h1 : f' i1 = x1) (d : i0 ≠ i1)
  (hr : ∀ j, j < n → j ≠ i0 → j ≠ i1 → f' j = f j) : ((full n f).set i0 x0).set i1 x1 = full n f' := by
 unfold full
 apply List.ext_getElem
 ·simp
 ·intro j hj hj'
  simp at hj'
  simp only [List.getElem_set, List.getElem_map, List.getElem_range]
  by_cases e1 : i1 = j
  ·subst e1; rw [if_pos rfl, h1]
  ·rw [if_neg e1]
   by_cases e0 : i0 = j
   ·subst e0; rw [if_pos rfl, h0]
   ·rw [if_neg e0, hr j hj' (Ne.symm e0) (Ne.symm e1)]
theorem brow_step {F F' : Nat → Fin p} {S n b j : Nat} (hj : j < S) :
  ((brow F F' S n (b * S + j)).set (b * (2 * S) + j) ((F' (b * (2 * S) + j)).val : Int)).set (b * (2 * S) + j + S) ((F' (b * (2 * S) + j + S)).val : Int) = brow F F' S n (b * S + j + 1) := by
 refine full_set2 (by rw [hx_lo hj, if_pos (by omega)]) (by rw [hx_hi hj, if_pos (by omega)]) (by omega) fun i hi n0 n1 => ?_
 have hne : hx S i ≠ b * S + j := fun h => by
  rcases hx_inv hj h with h | h
  ·exact n0 h
  ·exact n1 h
 by_cases h : hx S i < b * S + j
 ·rw [if_pos h, if_pos (by omega)]
 ·rw [if_neg h, if_neg (by omega)]
theorem brow_lo {F F' : Nat → Fin p} {S n b j : Nat} (hj : j < S) (hn : b * (2 * S) + j < n) : (brow F F' S n (b * S + j)).getD (b * (2 * S) + j) 0 = ((F (b * (2 * S) + j)).val : Int) := by
 unfold brow
 rw [full_get hn, hx_lo hj, if_neg (by omega)]
theorem brow_hi {F F' : Nat → Fin p} {S n b j : Nat} (hj : j < S) (hn : b * (2 * S) + j + S < n) : (brow F F' S n (b * S + j)).getD (b * (2 * S) + j + S) 0 = ((F (b * (2 * S) + j + S)).val : Int) := by
 unfold brow
 rw [full_get hn, hx_hi hj, if_neg (by omega)]
end
/-- A list, each at the place of its number, the bits turned about, behind i of them. -/
def trow (k : Nat) (L : List Int) (i : Nat) : List Int := full (2 ^ k) fun j => if rev k j < i then L.getD (rev k j) 0 else 0
theorem trow_zero (k : Nat) (L : List Int) : trow k L 0 = List.replicate (2 ^ k) 0 := by
 unfold trow full
 rw [List.map_congr_left (g := fun _ => (0 : Int)) (fun i _ => by rw [if_neg (by omega)])]
 simp [List.map_const']
theorem trow_full (k : Nat) (L : List Int) : trow k L (2 ^ k) = full (2 ^ k) fun j => L.getD (rev k j) 0 := full_congr fun j _ => by rw [if_pos (rev_lt _ _)]
theorem trow_step {k i : Nat} {L : List Int} (hi : i < 2 ^ k) : (trow k L i).set (rev k i) (L.getD i 0) = trow k L (i + 1) := by
 unfold trow full
 apply List.ext_getElem
 ·simp
 ·intro j hj hj'
  simp at hj'
  simp only [List.getElem_set, List.getElem_map, List.getElem_range]
  by_cases e : rev k i = j
  ·subst e; rw [if_pos rfl, rev_rev k i hi, if_pos (by omega)]
  ·rw [if_neg e]
   have hne : rev k j ≠ i := fun h => e (by rw [← h, rev_rev k j hj'])
   by_cases h : rev k j < i
   ·rw [if_pos h, if_pos (by omega)]
   ·rw [if_neg h, if_neg (by omega)]
end Go.Proofs.YtmalmijdjhkklaaGreat
end

section
/- Products of lists, round and round and straight on, and transforms. -/
set_option linter.unusedVariables false
set_option linter.unusedSectionVars false
namespace Go.Proofs.YtmalmijdjhkklaaGreat
open Alg
section
variable {p : Nat} [NeZero p]
theorem add_mod_inj {N j a b : Nat} (ha : a < N) (hb : b < N) (h : (a + j) % N = (b + j) % N) : a = b := by
 rcases Nat.le_total a b with h1 | h1
 ·have h2 := Nat.sub_mod_eq_zero_of_mod_eq h.symm
  rw [show b + j - (a + j) = b - a by omega, Nat.mod_eq_of_lt (by omega)] at h2
  omega
 ·have h2 := Nat.sub_mod_eq_zero_of_mod_eq h
  rw [show a + j - (b + j) = a - b by omega, Nat.mod_eq_of_lt (by omega)] at h2
  omega
theorem sm_shift (N j : Nat) (F : Nat → Fin p) : sm N (fun k => F ((k + j) % N)) = sm N F :=
 sm_perm N (fun k => (k + j) % N) F (fun i hi => Nat.mod_lt _ (by omega)) fun a b ha hb h => add_mod_inj ha hb h
/-- The product round and round. -/
def cyc (N : Nat) (A B : Nat → Fin p) (i : Nat) : Fin p := sm N fun j => A j * B ((i + (N - j)) % N)
theorem dft_cyc {w : Fin p} {N : Nat} (hw : pw w N = 1) (A B : Nat → Fin p) (m : Nat) : dft w N (cyc N A B) m = dft w N A m * dft w N B m := by
 have hv : pw (pw w m) N = 1 := by rw [← pw_mul, Nat.mul_comm, pw_mul, hw, one_pw]
 have h1 : ∀ j, j < N → pw w (m * j) * dft w N B m = sm N fun i => pw w (m * i) * B ((i + (N - j)) % N) := fun j hj => by
  unfold dft
  rw [← sm_shift N (N - j) (fun k => pw w (m * k) * B k), ← sm_mul]
  refine sm_congr fun i hi => ?_
  have h2 : pw w (m * j) * pw w (m * ((i + (N - j)) % N)) = pw w (m * i) := by
   rw [pw_mul, pw_mul, pw_mul, ← pw_mod hv, ← pw_add, show j + (i + (N - j)) = i + N by omega, pw_add, hv]; grind
  rw [← h2]; grind
 have h3 : dft w N A m * dft w N B m = sm N fun j => sm N fun i => pw w (m * i) * (A j * B ((i + (N - j)) % N)) := by
  have : dft w N A m * dft w N B m = sm N fun j => A j * (pw w (m * j) * dft w N B m) := by
   rw [show dft w N A m * dft w N B m = dft w N B m * dft w N A m by grind]
   unfold dft
   rw [← sm_mul]
   exact sm_congr fun j _ => by grind
  rw [this]
  refine sm_congr fun j hj => ?_
  rw [h1 j hj, ← sm_mul]
  exact sm_congr fun i _ => by grind
 rw [h3, sm_swap]
 unfold dft cyc
 refine sm_congr fun i _ => ?_
 rw [sm_mul]
/-- The product straight on. -/
def cv (A B : Nat → Fin p) (i : Nat) : Fin p := sm (i + 1) fun j => A j * B (i - j)
theorem cyc_lin {N la lb i : Nat} {A B : Nat → Fin p} (hi : i < N) (hA : ∀ j, la ≤ j → A j = 0) (hB : ∀ j, lb ≤ j → B j = 0) (h : la + lb ≤ N + i + 1) : cyc N A B i = cv A B i := by
 unfold cyc cv
 obtain ⟨m, rfl⟩ : ∃ m, N = (i + 1) + m := ⟨N - (i + 1), by omega⟩
 rw [sm_split]
 have h1 : (sm m fun k => A (i + 1 + k) * B ((i + (i + 1 + m - (i + 1 + k))) % (i + 1 + m))) = 0 := by
  rw [← sm_const0 m]
  refine sm_congr fun k hk => ?_
  rw [show i + (i + 1 + m - (i + 1 + k)) = i + m - k by omega, Nat.mod_eq_of_lt (by omega)]
  rcases Nat.lt_or_ge (i + 1 + k) la with h2 | h2
  ·rw [hB _ (by omega)]; grind
  ·rw [hA _ h2]; grind
 rw [h1]
 have h2 : (sm (i + 1) fun j => A j * B ((i + (i + 1 + m - j)) % (i + 1 + m))) = sm (i + 1) fun j => A j * B (i - j) := sm_congr fun j hj => by
  rw [show i + (i + 1 + m - j) = (i - j) + (i + 1 + m) by omega, Nat.add_mod_right, Nat.mod_eq_of_lt (by omega)]
 rw [h2]; grind
/-- Two transforms multiplied, and back: the product round and round. -/
theorem tr_cyc {g : Fin p} {N : Nat} (hp : Prime p) (hg : Ord g (p - 1)) (hd : N ∣ p - 1) (h0 : 0 < N) (A B : Nat → Fin p) (i : Nat) (hi : i < N) :
  tr g N true (fun m => tr g N false A m * tr g N false B m) i = cyc N A B i := by
 have hw : pw (rt g N false) N = 1 := (rt_ord hg hd h0 false).2.1
 have h1 : ∀ C m, tr g N false C m = dft (rt g N false) N C m := fun C m => by show (1 : Fin p) * _ = _; grind
 have h2 := tr_back hp hg hd h0 false (cyc N A B) i hi
 rw [← h2]
 show sc p N true * dft (rt g N true) N _ i = sc p N true * dft (rt g N true) N _ i
 congr 1
 exact dft_congr (fun m _ => by rw [h1, h1, h1, dft_cyc hw]) i
/-- A list, noughts behind it. -/
def padz (n : Nat) (A : Nat → Fin p) (i : Nat) : Fin p := if i < n then A i else 0
theorem padz_in {n i : Nat} {A : Nat → Fin p} (h : i < n) : padz n A i = A i := if_pos h
theorem padz_out {n i : Nat} {A : Nat → Fin p} (h : n ≤ i) : padz n A i = 0 := if_neg (by omega)
/-- Round and round is straight on, folded. -/
theorem cyc_fold {n i : Nat} (hi : i < n) (A B : Nat → Fin p) : cyc n A B i = cv (padz n A) (padz n B) i + cv (padz n A) (padz n B) (i + n) := by
 have e1 : cv (padz n A) (padz n B) i = sm (i + 1) fun j => A j * B (i - j) := sm_congr fun j hj => by rw [padz_in (by omega), padz_in (by omega)]
 have e2 : cv (padz n A) (padz n B) (i + n) = sm (n - (i + 1)) fun k => A (i + 1 + k) * B (n - 1 - k) := by
  unfold cv
  rw [show i + n + 1 = (i + 1) + ((n - (i + 1)) + (i + 1)) by omega, sm_split (i + 1), sm_split (n - (i + 1))]
  have z1 : (sm (i + 1) fun j => padz n A j * padz n B (i + n - j)) = 0 := by
   rw [← sm_const0 (i + 1)]
   exact sm_congr fun j hj => by rw [padz_out (A := B) (by omega)]; grind
  have z2 : (sm (i + 1) fun j => padz n A (i + 1 + (n - (i + 1) + j)) * padz n B (i + n - (i + 1 + (n - (i + 1) + j)))) = 0 := by
   rw [← sm_const0 (i + 1)]
   exact sm_congr fun j hj => by rw [padz_out (A := A) (by omega)]; grind
  rw [z1, z2]
  have : (sm (n - (i + 1)) fun k => padz n A (i + 1 + k) * padz n B (i + n - (i + 1 + k))) = sm (n - (i + 1)) fun k => A (i + 1 + k) * B (n - 1 - k) := sm_congr fun k hk => by
   rw [padz_in (by omega), padz_in (by omega), show i + n - (i + 1 + k) = n - 1 - k by omega]
  rw [this]; grind
 rw [e1, e2]
 unfold cyc
 obtain ⟨m, rfl⟩ : ∃ m, n = (i + 1) + m := ⟨n - (i + 1), by omega⟩
 rw [sm_split]
 congr 1
 ·exact sm_congr fun j hj => by rw [show i + (i + 1 + m - j) = (i - j) + (i + 1 + m) by omega, Nat.add_mod_right, Nat.mod_eq_of_lt (by omega)]
 ·rw [show i + 1 + m - (i + 1) = m by omega]
  exact sm_congr fun k hk => by rw [show i + (i + 1 + m - (i + 1 + k)) = i + 1 + m - 1 - k by omega, Nat.mod_eq_of_lt (by omega)]
end
end Go.Proofs.YtmalmijdjhkklaaGreat
end

section
/- The transform of any length, by pairs: it is that of the sum. -/
set_option linter.unusedVariables false
set_option linter.unusedSectionVars false
namespace Go.Proofs.YtmalmijdjhkklaaGreat
open Alg
/-- How many pairs so many things have. -/
def tri : Nat → Nat
 | 0 => 0
 | m + 1 => tri m + m
theorem tri_add (j k : Nat) : tri (j + k) = tri j + tri k + j * k := by
 induction k with
 | zero => rw [Nat.mul_zero]; rfl
 | succ k ih => rw [← Nat.add_assoc, tri, ih, tri, Nat.mul_add]; omega
theorem tri_two (m : Nat) : 2 * tri m = m * (m - 1) := by
 induction m with
 | zero => rfl
 | succ m ih =>
  rw [tri, Nat.mul_add, ih, show m + 1 - 1 = m by omega]
  cases m with
  | zero => rfl
  | succ m => rw [show m + 1 - 1 = m by omega, Nat.mul_comm (m + 1) m, ← Nat.add_mul]
theorem tri_div (m : Nat) : m * (m - 1) / 2 = tri m := by rw [← tri_two]; omega
section
variable {p : Nat} [NeZero p]
theorem sm_rev (n : Nat) (F : Nat → Fin p) : sm n (fun j => F (n - 1 - j)) = sm n F :=
 sm_perm n (fun j => n - 1 - j) F (fun i hi => by omega) fun i j hi hj h => by omega
theorem chirp_eq {w v : Fin p} {n : Nat} (hv : w * v = 1) (x : Nat → Fin p) {A B : Nat → Fin p}
  (hA : ∀ i, i < n → A i = pw v (tri (n - 1 - i)) * x (n - 1 - i)) (hA0 : ∀ i, n ≤ i → A i = 0) (hB : ∀ k, k < 2 * n - 1 → B k = pw w (tri k)) (k : Nat) (hk : k < n) :
  pw v (tri k) * cv A B (n - 1 + k) = dft w n x k := by
 have hvn : ∀ m, pw v m * pw w m = 1 := fun m => by rw [← mul_pw, show v * w = w * v by grind, hv, one_pw]
 have e1 : cv A B (n - 1 + k) = sm n fun i => A i * B (n - 1 + k - i) := by
  unfold cv
  rw [show n - 1 + k + 1 = n + k by omega, sm_split]
  have : (sm k fun i => A (n + i) * B (n - 1 + k - (n + i))) = 0 := by
   rw [← sm_const0 k]
   exact sm_congr fun i _ => by rw [hA0 _ (by omega)]; grind
  rw [this]; grind
 rw [e1, ← sm_rev, ← sm_mul]
 refine sm_congr fun j hj => ?_
 rw [hA _ (by omega), hB _ (by omega), show n - 1 - (n - 1 - j) = j by omega, show n - 1 + k - (n - 1 - j) = k + j by omega, tri_add, pw_add, pw_add]
 have h1 := hvn (tri k)
 have h2 := hvn (tri j)
 generalize pw v (tri k) = a1 at *
 generalize pw w (tri k) = b1 at *
 generalize pw v (tri j) = a2 at *
 generalize pw w (tri j) = b2 at *
 have : a1 * (a2 * x j * (b1 * b2 * pw w (k * j))) = (a1 * b1) * (a2 * b2) * (pw w (k * j) * x j) := by grind
 rw [this, h1, h2]; grind
end
end Go.Proofs.YtmalmijdjhkklaaGreat
end

section
/- slices.Clone at numbers. -/
namespace Go.Proofs.YtmalmijdjhkklaaGreat
open Go.RowKit
open Alg

theorem quiet_add {P : Program} {f : FuncId} {args : Array Value} {w : World} {a n : Nat} {v : Value}
  (h : Calls P f args (w.drewN (a + n)) fun e w' => e = .returned v ∧ ∃ m, w' = (w.drewN (a + n)).drewN m) :
  Calls P f args (w.drewN (a + n)) fun e w'' => e = .returned v ∧ ∃ m, w'' = w.drewN (a + m) :=
 h.mono fun _ _ ⟨he, m, hm⟩ => ⟨he, n + m, by rw [hm, World.drewN_drewN, Nat.add_assoc]⟩
theorem addrN (b o n : Nat) : (⟨b, o, none⟩ : Addr).add n = ⟨b, o + n, none⟩ := by unfold Addr.add; split <;> simp_all
set_option maxHeartbeats 1000000 in
theorem cloneU_any (A : Option Addr) (c : Nat) (L : List Int) (w : World) (hl : L.length ≤ 8796093022208) (hR : RdI w w.heap.size .u64 A L) :
  Calls Tryz.prog 116 #[.slice A L.length c] w fun r w' => ∃ V, r = .returned V ∧ OwnU w' w.heap.size V L.length L ∧ Below w.heap.size w w' := by
 obtain ⟨i0, hi, hz0, hz1, hz2⟩ := info_parts info_u64
 have hnil : ∀ (W : World) (a : Option Addr) (n c : Nat), (binOp .eql 54 (.slice a n c) (.slice none 0 0)).run Tryz.prog W = .ok (.bool a.isNone) W := fun W a n c => Lib.run_eql_slice_nil W 54 22 a n c 0 0 Tryz.underlying54
 rcases A with _ | ad
 ·have h1 : L.length = 0 := by
   rcases Nat.eq_zero_or_pos L.length with h | h
   ·exact h
   ·obtain ⟨b, o, h, _⟩ := hR h
    cases h
  have hf : L = [] := List.eq_nil_of_length_eq_zero h1
  subst hf
  go_enter Tryz.func116, Tryz.ntmps116
  go_wp2
  go_ret
  exact ⟨_, rfl, World.ownsRow_nil _ _ _ _, Below.refl _ _⟩
 ·have hcells : ∀ j u, (ints .u64 L)[j]? = some u → w.cell? (ad.add j) = some u := by
   intro j u hu
   have hj : j < L.length := by
    rcases Nat.lt_or_ge j L.length with h | h
    ·exact h
    ·rw [List.getElem?_eq_none (by rw [ints_length]; exact h)] at hu; cases hu
   obtain ⟨b, o, h, _, hc⟩ := hR (by omega)
   have h' : ad = ⟨b, o, none⟩ := Option.some.inj h
   rw [h']
   have h2 := hc j hj
   have h3 : u = .int .u64 (L.getD j 0) := by
    simp [ints, List.getElem?_eq_getElem hj] at hu
    rw [← hu, List.getD_eq_getElem?_getD, List.getElem?_eq_getElem hj]; rfl
   rw [h3, ← h2, addrN]
  go_enter Tryz.func116, Tryz.ntmps116
  have hown : (w.alloc (.cells #[] 22)).ownsRow w.heap.size 22 1 (.slice (some ⟨w.heap.size, 0, none⟩) 0 0) 0 [] := World.ownsRow_lit w #[] 0 (Nat.le_refl _) (by unfold maxLen; omega) rfl
  have hB := (Below.refl w.heap.size w).alloc (Nat.le_refl _) (.cells #[] 22)
  have hcells2 : ∀ j u, (ints .u64 L)[j]? = some u → (w.alloc (.cells #[] 22)).cell? (ad.add j) = some u := fun j u hu => by
   have h1 := hcells j u hu
   exact (hB.cell (World.block_lt_of_cell? w _ h1)).trans h1
  have HC := Lib.hid hcells2
  have h1 : ∀ u ∈ ints .u64 L, u.oneCell' = true := fun u hu => by
   obtain ⟨x, _, rfl⟩ := List.mem_map.1 hu
   rfl
  have H1 := Lib.hid h1
  clear hcells hcells2 h1
  go_wp2_with (at_builtin; refine wpList_append_own _ rfl _ _ 54 rfl w.heap.size 22 i0 (.int .u64 0) 1 8 Tryz.underlying54 hi hz0 hz1 hz2 rfl (by decide) _ 0 [] rfl hown ad L.length c (ints .u64 L) rfl ?c0 HC.out H1.out ?c3 ?c4 ?c5 ?_)
  case c0 => rw [ints_length]; omega
  case c3 => unfold maxLen; omega
  case c4 => omega
  case c5 => simp
  intro v' w1 hown' hgrow _
  have HO : Hid (OwnU w1 w.heap.size v' L.length L) := Lib.hid (by
   unfold OwnU
   simpa using hown')
  have hB2 : Below w.heap.size w w1 := hB.grown hgrow (by simp) (fun k hk => by simp [Value.ownBlock] at hk; omega)
  clear hown' hown hgrow
  go_wp2
  go_ret
  exact ⟨_, rfl, HO.out, hB2⟩
end Go.Proofs.YtmalmijdjhkklaaGreat
end

section
/- Rows of lists: noughts behind, products place by place, sums round and round. -/
set_option linter.unusedVariables false
set_option linter.unusedSimpArgs false
namespace Go.Proofs.YtmalmijdjhkklaaGreat
open Go.RowKit
open Alg

theorem ints_append (k : IntKind) (xs ys : List Int) : ints k (xs ++ ys) = ints k xs ++ ints k ys := by simp [ints]
theorem ints_repl (k : IntKind) (m : Nat) : List.replicate m (.int k 0) = ints k (List.replicate m 0) := by simp [ints]
theorem pad_lst {p : Nat} [NeZero p] {n N : Nat} (h : n ≤ N) (F : Nat → Fin p) : lst n F ++ List.replicate (N - n) 0 = lst N (padz n F) := by
 apply List.ext_getElem
 ·simp [lst, full]; omega
 ·intro i h1 h2
  simp only [lst, full, List.length_append, List.length_map, List.length_range, List.length_replicate] at h1 h2
  by_cases hi : i < n
  ·rw [List.getElem_append_left (by simp [lst, full]; exact hi)]
   simp only [lst, full, List.getElem_map, List.getElem_range, padz_in hi]
  ·rw [List.getElem_append_right (by simp [lst, full]; omega)]
   simp only [lst, full, List.getElem_map, List.getElem_range, List.getElem_replicate, padz_out (A := F) (show n ≤ i by omega)]
   simp
/-- The row behind i products. -/
def mrow {p : Nat} [NeZero p] (N : Nat) (X Y : Nat → Fin p) (i : Nat) : List Int := lst N fun j => if j < i then X j * Y j else X j
theorem mrow_zero {p : Nat} [NeZero p] (N : Nat) (X Y : Nat → Fin p) : lst N X = mrow N X Y 0 := lst_congr fun i _ => by rw [if_neg (by omega)]
theorem mrow_full {p : Nat} [NeZero p] (N : Nat) (X Y : Nat → Fin p) : mrow N X Y N = lst N fun j => X j * Y j := lst_congr fun i hi => by rw [if_pos hi]
theorem mrow_step {p : Nat} [NeZero p] {N i : Nat} {X Y : Nat → Fin p} (hi : i < N) : (mrow N X Y i).set i (((X i * Y i : Fin p).val : Nat) : Int) = mrow N X Y (i + 1) := by
 unfold mrow lst full
 apply List.ext_getElem
 ·simp
 ·intro j hj hj'
  simp at hj'
  simp only [List.getElem_set, List.getElem_map, List.getElem_range]
  by_cases e : i = j
  ·subst e; rw [if_pos rfl, if_pos (by omega)]
  ·rw [if_neg e]
   by_cases h : j < i
   ·rw [if_pos h, if_pos (by omega)]
   ·rw [if_neg h, if_neg (by omega)]
theorem mrow_at {p : Nat} [NeZero p] {N i : Nat} {X Y : Nat → Fin p} (hi : i < N) : (mrow N X Y i).getD i 0 = ((X i).val : Int) := by
 unfold mrow
 rw [lst_get hi, if_neg (by omega)]
/-- The sums behind i numbers, round and round n. -/
def frow {p : Nat} [NeZero p] (n : Nat) (C : Nat → Fin p) (i : Nat) : List Int := lst n fun j => (if j < i then C j else 0) + (if j + n < i then C (j + n) else 0)
theorem frow_zero {p : Nat} [NeZero p] (n : Nat) (C : Nat → Fin p) : frow n C 0 = List.replicate n 0 := by
 unfold frow lst full
 rw [List.map_congr_left (g := fun _ => (0 : Int)) (fun i _ => by simp)]
 simp [List.map_const']
theorem frow_at {p : Nat} [NeZero p] {n i : Nat} {C : Nat → Fin p} (hn : 0 < n) (hi : i < 2 * n) : (frow n C i).getD (i % n) 0 = (((if i < n then 0 else C (i - n) : Fin p)).val : Int) := by
 unfold frow
 rw [lst_get (Nat.mod_lt _ hn)]
 by_cases h : i < n
 ·rw [Nat.mod_eq_of_lt h, if_neg (by omega), if_neg (by omega), if_pos h]; simp
 ·rw [Nat.mod_eq_sub_mod (by omega), Nat.mod_eq_of_lt (by omega), if_pos (by omega), if_neg (by omega), if_neg h]; simp
theorem frow_step {p : Nat} [NeZero p] {n i : Nat} {C : Nat → Fin p} (hn : 0 < n) (hi : i < 2 * n) : (frow n C i).set (i % n) ((((if i < n then 0 else C (i - n)) + C i : Fin p).val : Nat) : Int) = frow n C (i + 1) := by
 unfold frow lst full
 apply List.ext_getElem
 ·simp
 ·intro j hj hj'
  simp at hj'
  simp only [List.getElem_set, List.getElem_map, List.getElem_range]
  by_cases h : i < n
  ·rw [Nat.mod_eq_of_lt h, if_pos h]
   by_cases e : i = j
   ·subst e; rw [if_pos rfl, if_pos (by omega), if_neg (by omega)]; congr 2; grind
   ·rw [if_neg e]
    rw [if_neg (show ¬ j + n < i by omega), if_neg (show ¬ j + n < i + 1 by omega)]
    by_cases h2 : j < i
    ·rw [if_pos h2, if_pos (by omega)]
    ·rw [if_neg h2, if_neg (by omega)]
  ·rw [Nat.mod_eq_sub_mod (by omega), Nat.mod_eq_of_lt (by omega), if_neg h]
   by_cases e : i - n = j
   ·subst e; rw [if_pos rfl, if_pos (by omega), if_pos (by omega), show i - n + n = i by omega]
   ·rw [if_neg e, if_pos (by omega), if_pos (show j < i + 1 by omega)]
    by_cases h2 : j + n < i
    ·rw [if_pos h2, if_pos (by omega)]
    ·rw [if_neg h2, if_neg (by omega)]
theorem frow_full {p : Nat} [NeZero p] {n N : Nat} (hn : 0 < n) (hN : 2 * n ≤ N + 1) (A B : Nat → Fin p) : frow n (cyc N (padz n A) (padz n B)) (2 * n - 1) = lst n (cyc n A B) := lst_congr fun j hj => by
 have hlin : ∀ i, i < N → i < 2 * n - 1 → cyc N (padz n A) (padz n B) i = cv (padz n A) (padz n B) i := fun i hi _ => cyc_lin hi (fun j h => padz_out h) (fun j h => padz_out h) (by omega)
 rw [cyc_fold hj, if_pos (by omega), hlin j (by omega) (by omega)]
 by_cases h : j + n < 2 * n - 1
 ·rw [if_pos h, hlin (j + n) (by omega) h]
 ·rw [if_neg h]
  have : cv (padz n A) (padz n B) (j + n) = 0 := by
   unfold cv
   rw [← sm_const0 (j + n + 1)]
   refine sm_congr fun i hi => ?_
   rcases Nat.lt_or_ge i n with h1 | h1
   ·rw [padz_out (A := B) (by omega)]; grind
   ·rw [padz_out (A := A) h1]; grind
  rw [this]
theorem own_set {w : World} {B G n c : Nat} {L : List Int} (h : OwnU w B (.slice (some ⟨G, 0, none⟩) n c) n L) (o : Nat) (ho : o < n) : w.cell? ⟨G, o, none⟩ = some (.int .u64 (L.getD o 0)) ∧ w.frozen? ⟨G, o, none⟩ = false ∧ B ≤ G := ⟨(h.set o ho 0).2.1, (h.set o ho 0).2.2.1, (h.set o ho 0).2.2.2⟩
theorem rd_cells {w : World} {b o : Nat} {L : List Int} (hc : ∀ j, j < L.length → w.cell? ⟨b, o + j, none⟩ = some (.int .u64 (L.getD j 0))) : ∀ j u, (ints .u64 L)[j]? = some u → w.cell? ((⟨b, o, none⟩ : Addr).add j) = some u := by
 intro j u hu
 have hj : j < L.length := by
  rcases Nat.lt_or_ge j L.length with h | h
  ·exact h
  ·rw [List.getElem?_eq_none (by rw [ints_length]; exact h)] at hu; cases hu
 have h3 : u = .int .u64 (L.getD j 0) := by
  simp [ints, List.getElem?_eq_getElem hj] at hu
  rw [← hu, List.getD_eq_getElem?_getD, List.getElem?_eq_getElem hj]; rfl
 rw [h3, ← hc j hj, addrN]
theorem ints_one (L : List Int) : ∀ u ∈ ints .u64 L, u.oneCell' = true := fun u hu => by
 obtain ⟨x, _, rfl⟩ := List.mem_map.1 hu
 rfl
end Go.Proofs.YtmalmijdjhkklaaGreat
end

section
/- The transform of a prime length, by a generator's powers: it is that of the sum. -/
set_option linter.unusedVariables false
set_option linter.unusedSectionVars false
namespace Go.Proofs.YtmalmijdjhkklaaGreat
open Alg
/-- The power of a generator, as a number. -/
def gp (n : Nat) [NeZero n] (g : Nat) (e : Nat) : Nat := (pw (zt n (g : Int)) e).val
theorem gp_int (n : Nat) [NeZero n] (g e : Nat) : ((gp n g e : Nat) : Int) = (g : Int) ^ e % (n : Int) := by
 unfold gp; rw [← zt_pow, zt_val]
theorem gp_lt (n : Nat) [NeZero n] (g e : Nat) : gp n g e < n := (pw (zt n (g : Int)) e).isLt
section
variable {p : Nat} [NeZero p]
theorem sm_first (n : Nat) (F : Nat → Fin p) : sm (n + 1) F = F 0 + sm n (fun i => F (i + 1)) := by
 rw [Nat.add_comm n 1, sm_split, sm_succ, sm_zero]
 have : (sm n fun i => F (1 + i)) = sm n fun i => F (i + 1) := sm_congr fun i _ => by rw [Nat.add_comm]
 rw [this]; grind
theorem pw_congr_mod {w : Fin p} {n a b : Nat} (h : pw w n = 1) (e : a % n = b % n) : pw w a = pw w b := by rw [pw_mod h a, e, ← pw_mod h b]
theorem rader_zero (w : Fin p) (n : Nat) (x : Nat → Fin p) : dft w n x 0 = sm n x := by
 unfold dft
 exact sm_congr fun j _ => by rw [Nat.zero_mul, pw_zero]; grind
variable {n : Nat} [NeZero n]
theorem gp_pos {g : Nat} (hn : Prime n) (hg : Ord (zt n (g : Int)) (n - 1)) (e : Nat) : 0 < gp n g e := by
 have hne : zt n (g : Int) ≠ 0 := fun h0 => by
  have h1 := hg.2.1
  have := hn.1
  rw [h0, show n - 1 = (n - 2) + 1 by omega, pw_succ] at h1
  exact one_ne_zero hn.1 (by rw [← h1]; grind)
 have h := pw_ne_zero hn hne e
 rcases Nat.eq_zero_or_pos (gp n g e) with h0 | h0
 ·exact absurd (Fin.ext (by simpa [gp] using h0)) h
 ·exact h0
/-- The transform at the m-th power of the inverse: the first number, and a product round and round. -/
theorem rader_eq {w : Fin p} {g : Nat} (hn : Prime n) (h3 : 3 ≤ n) (hg : Ord (zt n (g : Int)) (n - 1)) (hw : pw w n = 1) (x : Nat → Fin p) {A B : Nat → Fin p} {E : Nat → Nat}
  (hE : ∀ m, m < n - 1 → pw (zt n (g : Int)) (E m) * pw (zt n (g : Int)) m = 1)
  (hA : ∀ q, q < n - 1 → A q = x (gp n g q)) (hB : ∀ q, q < n - 1 → B q = pw w (gp n g (E q))) (m : Nat) (hm : m < n - 1) :
  x 0 + cyc (n - 1) A B m = dft w n x (gp n g (E m)) := by
 have e1 : dft w n x (gp n g (E m)) = x 0 + sm (n - 1) fun j => pw w (gp n g (E m) * (j + 1)) * x (j + 1) := by
  unfold dft
  obtain ⟨k, rfl⟩ : ∃ k, n = k + 1 := ⟨n - 1, by omega⟩
  rw [sm_first, Nat.mul_zero, pw_zero, show k + 1 - 1 = k by omega]; grind
 have e2 : (sm (n - 1) fun j => pw w (gp n g (E m) * (j + 1)) * x (j + 1)) = sm (n - 1) fun q => pw w (gp n g (E m) * gp n g q) * x (gp n g q) := by
  rw [← sm_perm (n - 1) (fun q => gp n g q - 1) (fun j => pw w (gp n g (E m) * (j + 1)) * x (j + 1))]
  ·refine sm_congr fun q hq => ?_
   have := gp_pos hn hg q
   rw [show gp n g q - 1 + 1 = gp n g q by omega]
  ·intro i hi
   have := gp_pos hn hg i
   have := gp_lt n g i
   omega
  ·intro i j hi hj h
   have h1 := gp_pos hn hg i
   have h2 := gp_pos hn hg j
   refine hg.inj hi hj (Fin.ext ?_)
   show gp n g i = gp n g j
   have h' : gp n g i - 1 = gp n g j - 1 := h
   omega
 rw [e1, e2]
 congr 1
 unfold cyc
 refine sm_congr fun q hq => ?_
 have hmod : (m + (n - 1 - q)) % (n - 1) < n - 1 := Nat.mod_lt _ (by omega)
 rw [hA q hq, hB _ hmod]
 have hz : pw w (gp n g (E ((m + (n - 1 - q)) % (n - 1)))) = pw w (gp n g (E m) * gp n g q) := by
  refine pw_congr_mod hw ?_
  have h1 : (zt n (gp n g (E ((m + (n - 1 - q)) % (n - 1))) : Int)) = zt n ((gp n g (E m) * gp n g q : Nat) : Int) := by
   rw [Int.natCast_mul, zt_mul]
   show zt n ((pw (zt n (g : Int)) (E _)).val : Int) = zt n ((pw (zt n (g : Int)) (E m)).val : Int) * zt n ((pw (zt n (g : Int)) q).val : Int)
   rw [zt_of_val, zt_of_val, zt_of_val]
   have hu : ∀ e, e < n - 1 → ∀ a b : Fin n, a * pw (zt n (g : Int)) e = 1 → b * pw (zt n (g : Int)) e = 1 → a = b := fun e _ a b ha hb => by
    have h1 : a * pw (zt n (g : Int)) e * b = b := by rw [ha]; grind
    have h2 : b * pw (zt n (g : Int)) e * a = a := by rw [hb]; grind
    rw [← h1, ← h2]; grind
   refine hu _ hmod _ _ (hE _ hmod) ?_
   rw [← pw_mod hg.2.1, pw_add]
   have k1 := hE m hm
   have k2 : pw (zt n (g : Int)) q * pw (zt n (g : Int)) (n - 1 - q) = 1 := by rw [← pw_add, show q + (n - 1 - q) = n - 1 by omega]; exact hg.2.1
   generalize pw (zt n (g : Int)) (E m) = a1 at *
   generalize pw (zt n (g : Int)) m = a2 at *
   generalize pw (zt n (g : Int)) q = a3 at *
   generalize pw (zt n (g : Int)) (n - 1 - q) = a4 at *
   have : a1 * a3 * (a2 * a4) = (a1 * a2) * (a3 * a4) := by grind
   rw [this, k1, k2]; grind
  have h2 := zt_eq.1 h1
  rw [← Int.natCast_emod, ← Int.natCast_emod] at h2
  exact Int.ofNat.inj h2
 rw [hz]; grind
/-- Each number but 0 is a power of the inverse. -/
theorem rader_all {g : Nat} (hn : Prime n) (hg : Ord (zt n (g : Int)) (n - 1)) {E : Nat → Nat}
  (hE : ∀ m, m < n - 1 → pw (zt n (g : Int)) (E m) * pw (zt n (g : Int)) m = 1) (i : Nat) (h0 : 0 < i) (hi : i < n) : ∃ m, m < n - 1 ∧ gp n g (E m) = i := by
 have hne : zt n (i : Int) ≠ 0 := fun h => by
  rw [← zt_zero, zt_eq, Int.emod_eq_of_lt (by omega) (by omega)] at h
  simp at h; omega
 obtain ⟨y, hy⟩ := inv_exists hn _ hne
 have hy0 : y ≠ 0 := unit_ne_zero hn.1 (b := zt n (i : Int)) (by rw [← hy]; grind)
 obtain ⟨m, hm, he⟩ := hg.all hn.1 y hy0
 refine ⟨m, hm, ?_⟩
 have h1 := hE m hm
 rw [he] at h1
 have : pw (zt n (g : Int)) (E m) = zt n (i : Int) := by
  have h2 : pw (zt n (g : Int)) (E m) * y * zt n (i : Int) = zt n (i : Int) := by rw [h1]; grind
  have h3 : pw (zt n (g : Int)) (E m) * y * zt n (i : Int) = pw (zt n (g : Int)) (E m) * (zt n (i : Int) * y) := by grind
  rw [← h2, h3, hy]; grind
 unfold gp
 rw [this]
 have := zt_val (p := n) (i : Int)
 rw [Int.emod_eq_of_lt (by omega) (by omega)] at this
 omega
end
end Go.Proofs.YtmalmijdjhkklaaGreat
end

section
/- The document's transforms: layers 6 (Root, Inv), 10 (Root, Table), 11 (Sum, Run). -/
namespace Go.Proofs.YtmalmijdjhkklaaGreat
open Go.RowKit

theorem r2powZ_any (a e m : Int) (w : World) (he0 : 0 ≤ e) (he : e ≤ 18446744073709551615) (ha0 : 0 ≤ a) (ha : a ≤ 18446744073709551615) (hm0 : 0 < m) (hm : m ≤ 18446744073709551615) :
  Calls Tryz.prog 136 #[.int .u64 a, .int .u64 e, .int .u64 m] w fun r w' => r = .returned (.int .u64 (a ^ e.toNat % m)) ∧ ∃ n, w' = w.drewN n := by
 have h := r2pow_any (e.toNat + 1) e.toNat a m w (by omega) (by omega) ha0 ha hm0 hm
 rw [Int.toNat_of_nonneg he0] at h
 exact h
theorem r6inv_any (a m : Int) (w : World) (ha0 : 0 ≤ a) (ha : a ≤ 18446744073709551615) (hm0 : 2 ≤ m) (hm : m ≤ 18446744073709551615) :
  Calls Tryz.prog 74 #[.int .u64 a, .int .u64 m] w fun r w' => r = .returned (.int .u64 (a ^ (m - 2).toNat % m)) ∧ ∃ n, w' = w.drewN n := by
 go_enter Tryz.func74, Tryz.ntmps74
 go_wp2_with fail
 refine (r2powZ_any a (m - 2) m _ (by omega) (by omega) ha0 ha (by omega) hm).mono ?_
 rintro r w1 ⟨rfl, n1, rfl⟩
 go_wp2
 go_ret
 exact ⟨rfl, _, rfl⟩
theorem r6root_any (p g n : Int) (w : World) (p1 : 3 ≤ p) (p2 : p < 9223372036854775808) (g0 : 0 ≤ g) (g1 : g < p) (n1 : 1 ≤ n) (n2 : n ≤ 9223372036854775807) (hd : (p - 1) % n = 0) :
  Calls Tryz.prog 135 #[.int .u64 p, .int .u64 g, .int .i64 n] w fun r w' => r = .returned (.int .u64 (g ^ ((p - 1) / n).toNat % p)) ∧ ∃ k, w' = w.drewN k := by
 have t1 : (n == 0) = false := beq_eq_false_iff_ne.2 (by omega)
 have t2 : ((p - 1) % n != 0) = false := by simp [hd]
 have q0 : 0 ≤ (p - 1) / n := Int.ediv_nonneg (by omega) (by omega)
 have q1 : (p - 1) / n ≤ p - 1 := Int.ediv_le_self _ (by omega)
 clear hd
 go_enter Tryz.func135, Tryz.ntmps135
 go_wp2_with fail
 refine (r2powZ_any g ((p - 1) / n) p _ q0 (by omega) g0 (by omega) (by omega) (by omega)).mono ?_
 rintro r w1 ⟨rfl, k, rfl⟩
 go_wp2
 go_ret
 exact ⟨rfl, _, rfl⟩

theorem r10root_yes (p g n : Int) (inv : Bool) (w : World) (p1 : 3 ≤ p) (p2 : p < 9223372036854775808) (g0 : 0 ≤ g) (g1 : g < p) (hn : chk p n 4096 = 0) :
  Calls Tryz.prog 70 #[.int .u64 p, .int .u64 g, .int .i64 n, .bool inv] w fun r w' => r = .returned (.tuple #[.int .u64 (rootR p g n inv), .int .i64 0]) ∧ ∃ k, w' = w.drewN k := by
 obtain ⟨c1, c2, c3⟩ := chk_zero hn
 have t1 : (n == 0) = false := beq_eq_false_iff_ne.2 (by omega)
 have t2 : ((p - 1) % n != 0) = false := by simp [c3]
 have t3 : decide (4096 < n) = false := by simp; omega
 have hR := Lib.hid (fun w => r6root_any p g n w p1 p2 g0 g1 c1 (by omega) c3)
 have z0 : 0 ≤ g ^ ((p - 1) / n).toNat % p := Int.emod_nonneg _ (by omega)
 have z1 : g ^ ((p - 1) / n).toNat % p < p := Int.emod_lt_of_pos _ (by omega)
 have HN : Hid (rootR p g n false = g ^ ((p - 1) / n).toNat % p) := Lib.hid rfl
 have HY : Hid (rootR p g n true = (g ^ ((p - 1) / n).toNat % p) ^ (n - 1).toNat % p) := Lib.hid rfl
 obtain ⟨z, hz⟩ : ∃ z, z = g ^ ((p - 1) / n).toNat % p := ⟨_, rfl⟩
 rw [← hz] at hR HN HY z0 z1
 clear hz c3 hn
 cases inv with
 | false =>
  go_enter Tryz.func70, Tryz.ntmps70
  go_wp2_with fail
  refine (hR.out _).mono ?_
  rintro r w1 ⟨rfl, k, rfl⟩
  go_wp2
  go_ret2
  exact ⟨by rw [HN.out]; first | rfl | simp, _, rfl⟩
 | true =>
  go_enter Tryz.func70, Tryz.ntmps70
  go_wp2_with fail
  refine (hR.out _).mono ?_
  rintro r w1 ⟨rfl, k, rfl⟩
  go_wp2_with fail
  refine (r2powZ_any z (n - 1) p _ (by omega) (by omega) z0 (by omega) (by omega) (by omega)).mono ?_
  rintro r w1 ⟨rfl, k2, rfl⟩
  go_wp2
  go_ret2
  exact ⟨by rw [HY.out]; first | rfl | simp, _, rfl⟩

set_option maxHeartbeats 1000000 in
theorem r10table_any (p W : Int) (n : Nat) (w : World) (p1 : 3 ≤ p) (p2 : p < 9223372036854775808) (w0 : 0 ≤ W) (w1 : W < p) (hn : n ≤ 4096) :
  Calls Tryz.prog 71 #[.int .u64 p, .int .u64 W, .int .i64 n] w fun r w' => ∃ V, r = .returned V ∧ OwnU w' w.heap.size V n (full n fun i => W ^ i % p) ∧ Below w.heap.size w w' := by
 obtain ⟨i0, hi, hz0, hz1, hz2⟩ := info_parts info_u64
 have ex : Hid ((1 : Int) = W ^ 0 % p) := Lib.hid (by rw [Int.pow_zero, Int.emod_eq_of_lt (by omega) (by omega)])
 have hl : (full n fun i => W ^ i % p).length = n := full_length _ _
 have HK : Hid (∀ k, k < n → (full n fun i => W ^ i % p).getD k 0 = W ^ k % p) := Lib.hid (fun k hk => full_get hk)
 obtain ⟨L, hL⟩ : ∃ L, L = full n fun i => W ^ i % p := ⟨_, rfl⟩
 rw [← hL] at hl HK ⊢
 clear hL
 go_enter Tryz.func71, Tryz.ntmps71
 go_wp2
 go_loopw [7, 8, 9] (fun O X I wr => ∃ (k : Nat) (x : Int) (Ov : Value), Ov = O ∧ X = .int .u64 x ∧ I = .int .i64 k ∧ k ≤ n ∧ 0 ≤ x ∧ x < p ∧ Hid (x = W ^ k % p) ∧ OwnU wr w.heap.size Ov k (L.take k) ∧ Below w.heap.size w wr) (fun _ _ I _ => n - (intOf I).toNat)
 case atStart => exact ⟨0, 1, _, rfl, rfl, rfl, by omega, by omega, by omega, ex, World.ownsRow_nil _ _ _ _, Below.refl _ _⟩
 case round =>
  obtain ⟨k, x, O, rfl, rfl, rfl, hk, x0, x1, hx, hown, hB⟩ := hrel
  have hws := hB.size
  by_cases hlt : k < n
  ·have y0 := Int.emod_nonneg (x * W) (show p ≠ 0 by omega)
   have y1 := Int.emod_lt_of_pos (x * W) (show 0 < p by omega)
   have hnx : Hid (x * W % p = W ^ (k + 1) % p) := Lib.hid (by rw [hx.out, modl, ← Int.pow_succ])
   have hxl : Hid (x = L.getD k 0) := Lib.hid (by rw [HK.out _ hlt]; exact hx.out)
   have hM := Lib.hid (fun w => r2mul_any x W p w x0 (by omega) w0 (by omega) (by omega) (by omega))
   obtain ⟨y, hy⟩ : ∃ y, y = x * W % p := ⟨_, rfl⟩
   rw [← hy] at y0 y1 hnx hM
   clear hy
   go_wp2_with (at_builtin; refine wpList_append_own _ rfl _ _ 54 rfl w.heap.size 22 i0 (.int .u64 0) 1 8 Tryz.underlying54 hi hz0 hz1 hz2 rfl (by decide) _ _ _ rfl (World.ownsRow.alloc hown _) ⟨wr.heap.size, 0, none⟩ 1 1 [.int .u64 x] rfl rfl ?c1 ?c2 ?c3 ?c4 ?c5 ?_)
   case c1 =>
    intro j u hj
    match j, hj with
    | 0, hj => simp at hj; subst hj; simp [Addr.add]
   case c2 => intro u hu; simp at hu; subst hu; rfl
   case c3 => unfold maxLen; omega
   case c4 => omega
   case c5 => simp; omega
   intro v' w6 hown' hgrow _
   have hO : OwnU w6 w.heap.size v' (k + 1) (L.take (k + 1)) := by
    unfold OwnU
    rw [ints_snocU _ _ (by omega), ← hxl.out]
    exact hown'
   have hB' := (hB.alloc hws (.cells #[.int .u64 x] 22)).grown hgrow (by simp; omega) (fun k hk => (World.ownsRow.lt hown k hk).1)
   have HO := Lib.hid hO
   clear hgrow hown hB hown' hO
   go_wp2_with fail
   refine (hM.out _).mono ?_
   rintro r w7 ⟨rfl, n1, rfl⟩
   go_wp2
   go_roundw
   case rel => exact ⟨k + 1, y, _, rfl, rfl, by go_num, by omega, y0, y1, hnx, HO.out.drewN _, below_drewN hB' _⟩
   case measure => simp [intOf]; omega
  ·obtain rfl : k = n := by omega
   have he : L.take k = L := List.take_of_length_le (by omega)
   rw [he] at hown
   have HO := Lib.hid hown
   clear he hown
   go_wp2
   go_ret
   exact ⟨_, rfl, HO.out, hB⟩

set_option maxHeartbeats 1000000 in
theorem r11sum_any (p : Int) (T L : List Int) (i : Nat) (A B : Option Addr) (c d n : Nat) (w : World) (p1 : 3 ≤ p) (p2 : p < 9223372036854775808) (hT : T.length = L.length) (hl : L.length ≤ 4096) (hi : i < L.length)
  (hUT : U64s T) (hUL : U64s L) (hA : RdI w n .u64 A T) (hB : RdI w n .u64 B L) :
  Calls Tryz.prog 72 #[.int .u64 p, .slice A T.length c, .slice B L.length d, .int .i64 i] w fun r w' => r = .returned (.int .u64 (sumR p T L i L.length)) ∧ ∃ k, w' = w.drewN k := by
 obtain ⟨b1, o1, rfl, hb1, hc1⟩ := hA (by omega)
 obtain ⟨b2, o2, rfl, hb2, hc2⟩ := hB (by omega)
 have HUT := Lib.hid hUT
 have HUL := Lib.hid hUL
 have HC1 := Lib.hid hc1
 have HC2 := Lib.hid hc2
 have HT := Lib.hid hT
 rw [hT]
 have h0 : Hid ((0 : Int) = sumR p T L i 0) := Lib.hid rfl
 clear hUT hUL hc1 hc2 hA hB hT
 go_enter Tryz.func72, Tryz.ntmps72
 go_wp2
 go_loopw [9, 10, 11, 14] (fun S _ _ I wr => ∃ (k : Nat) (s : Int) (m : Nat), S = .int .u64 s ∧ I = .int .i64 k ∧ k ≤ L.length ∧ 0 ≤ s ∧ s < p ∧ Hid (s = sumR p T L i k) ∧ wr = w.drewN m) (fun _ _ _ I _ => L.length - (intOf I).toNat)
 case atStart => exact ⟨0, 0, 0, rfl, rfl, by omega, by omega, by omega, h0, rfl⟩
 case round =>
  obtain ⟨k, s, m, rfl, rfl, hk, s0, s1, hs, rfl⟩ := hrel
  by_cases hlt : k < L.length
  ·have d2 : (w.drewN m).cell? ⟨b2, o2 + k, none⟩ = some (.int .u64 (L.getD k 0)) := HC2.out k hlt
   have hm : i * k % L.length < L.length := Nat.mod_lt _ (by omega)
   have d1 : (w.drewN m).cell? ⟨b1, o1 + (i * k % L.length), none⟩ = some (.int .u64 (T.getD (i * k % L.length) 0)) := HC1.out _ (by rw [HT.out]; exact hm)
   have hux := HUL.out.at hlt
   have hut := HUT.out.at (k := i * k % L.length) (by rw [HT.out]; exact hm)
   have hst : Hid (sumR p T L i (k + 1) = (sumR p T L i k + L.getD k 0 * T.getD (i * k % L.length) 0 % p) % p) := Lib.hid rfl
   rw [← hs.out] at hst
   have eix : ((i : Int) * (k : Int)) % (L.length : Int) = ((i * k % L.length : Nat) : Int) := by rw [Int.natCast_emod, Int.natCast_mul]
   have mb0 : 0 ≤ (i : Int) * (k : Int) := Int.mul_nonneg (by omega) (by omega)
   have mb1 : (i : Int) * (k : Int) ≤ 4096 * 4096 := Int.mul_le_mul (by omega) (by omega) (by omega) (by omega)
   have tl : ((L.length : Int) == 0) = false := beq_eq_false_iff_ne.2 (by omega)
   obtain ⟨x, hx⟩ : ∃ x, x = L.getD k 0 := ⟨_, rfl⟩
   obtain ⟨j, hj⟩ : ∃ j, j = i * k % L.length := ⟨_, rfl⟩
   rw [← hj] at d1 hut hst eix hm
   obtain ⟨y, hy⟩ : ∃ y, y = T.getD j 0 := ⟨_, rfl⟩
   rw [← hx] at d2 hux hst
   rw [← hy] at d1 hut hst
   have hM := Lib.hid (fun w => r2mul_any x y p w hux.1 hux.2 hut.1 hut.2 (by omega) (by omega))
   have z0 := Int.emod_nonneg (x * y) (show p ≠ 0 by omega)
   have z1 := Int.emod_lt_of_pos (x * y) (show 0 < p by omega)
   obtain ⟨z, hz⟩ : ∃ z, z = x * y % p := ⟨_, rfl⟩
   rw [← hz] at hM hst z0 z1
   have hAd := Lib.hid (fun w => r2add_any s z p w s0 (by omega) z0 (by omega) (by omega) (by omega))
   have u0 := Int.emod_nonneg (s + z) (show p ≠ 0 by omega)
   have u1 := Int.emod_lt_of_pos (s + z) (show 0 < p by omega)
   obtain ⟨u, hu⟩ : ∃ u, u = (s + z) % p := ⟨_, rfl⟩
   rw [← hu] at hAd hst u0 u1
   clear hx hj hy hz hu
   go_wp2_with fail
   refine (hM.out _).mono ?_
   rintro r w1 ⟨rfl, k1, rfl⟩
   go_wp2_with fail
   refine (hAd.out _).mono ?_
   rintro r w1 ⟨rfl, k2, rfl⟩
   go_wp2
   go_roundw
   case rel => exact ⟨k + 1, u, _, rfl, by go_num, by omega, u0, u1, Lib.hid hst.out.symm, rfl⟩
   case measure => simp [intOf]; omega
  ·obtain rfl : k = L.length := by omega
   go_wp2
   go_ret
   exact ⟨ret_int hs.out, _, rfl⟩

set_option maxHeartbeats 2000000 in
theorem r11run_yes (p g : Int) (L : List Int) (inv : Bool) (B : Option Addr) (d : Nat) (w : World) (p1 : 3 ≤ p) (p2 : p < 9223372036854775808) (g0 : 0 ≤ g) (g1 : g < p) (hn : chk p L.length 4096 = 0)
  (hUL : U64s L) (hB : RdI w w.heap.size .u64 B L) :
  Calls Tryz.prog 30 #[.int .u64 p, .int .u64 g, .slice B L.length d, .bool inv] w fun r w' => ∃ V, r = .returned V ∧ OwnU w' w.heap.size V L.length (runR p g L inv) ∧ Below w.heap.size w w' := by
 obtain ⟨i0, hi, hz0, hz1, hz2⟩ := info_parts info_u64
 obtain ⟨c1, c2, c3⟩ := chk_zero hn
 have HN := Lib.hid hn
 have HUL := Lib.hid hUL
 have hWr := rootR_range (p := p) (g := g) (n := L.length) (inv := inv) (by omega)
 have hRr := runR_length p g L inv
 have HRt := Lib.hid (fun w => r10root_yes p g L.length inv w p1 p2 g0 g1 hn)
 have HK : Hid (∀ k, k < L.length → (runR p g L inv).getD k 0 = if inv then sumR p (full L.length fun j => rootR p g L.length inv ^ j % p) L k L.length * ((L.length : Int) ^ (p - 2).toNat % p) % p else sumR p (full L.length fun j => rootR p g L.length inv ^ j % p) L k L.length) := Lib.hid (fun k hk => full_get hk)
 obtain ⟨R, hR⟩ : ∃ R, R = runR p g L inv := ⟨_, rfl⟩
 rw [← hR] at hRr HK ⊢
 obtain ⟨W, hW⟩ : ∃ W, W = rootR p g L.length inv := ⟨_, rfl⟩
 rw [← hW] at hWr HRt HK
 have hTl : (full L.length fun j => W ^ j % p).length = L.length := full_length _ _
 have hTu : U64s (full L.length fun j => W ^ j % p) := full_u64 fun i _ => by
  have := Int.emod_nonneg (W ^ i) (show p ≠ 0 by omega)
  have := Int.emod_lt_of_pos (W ^ i) (show 0 < p by omega)
  omega
 clear hR hW c3 hn hUL
 go_enter Tryz.func30, Tryz.ntmps30
 go_wp2_with fail
 refine (HRt.out _).mono ?_
 rintro r w1 ⟨rfl, n1, hw1⟩
 have hB1 : Below w.heap.size w w1 := by rw [hw1]; exact below_drewN (Below.refl _ _) _
 clear hw1
 go_wp2_with fail
 refine (r10table_any p W L.length _ p1 p2 hWr.1 hWr.2 (by omega)).mono ?_
 rintro r w2 ⟨V, rfl, hown, hB2⟩
 have hBt := hB1.trans (hB2.mono hB1.size)
 obtain ⟨A, c, rfl, hA⟩ := hown.rd
 obtain ⟨T, hT⟩ : ∃ T, T = full L.length fun j => W ^ j % p := ⟨_, rfl⟩
 rw [← hT] at hA hTl hTu HK
 have HA := Lib.hid hA
 have HTU := Lib.hid hTu
 have HTL := Lib.hid hTl
 have hs2 := hBt.size
 clear hown hB1 hB2 hA hTu hTl hT
 go_wp2
 go_loopw [12, 13, 14, 31] (fun O _ _ I wr => ∃ (k : Nat) (Ov : Value), Ov = O ∧ I = .int .i64 k ∧ k ≤ L.length ∧ OwnU wr w2.heap.size Ov k (R.take k) ∧ Below w2.heap.size w2 wr) (fun _ _ _ I _ => L.length - (intOf I).toNat)
 case atStart => exact ⟨0, _, rfl, rfl, by omega, World.ownsRow_nil _ _ _ _, Below.refl _ _⟩
 case round =>
  obtain ⟨k, O, rfl, rfl, hk, hown, hBr⟩ := hrel
  have hws := hBr.size
  by_cases hlt : k < L.length
  ·have hS := Lib.hid (r11sum_any p T L k A B c d wr.heap.size wr p1 p2 HTL.out (by omega) hlt HTU.out HUL.out ((HA.out.below hBr).mono hws) (((hB.below hBt).mono hs2).below hBr |>.mono hws))
   rw [HTL.out] at hS
   have hKk := HK.out k hlt
   have sr := sumR_range (show 1 ≤ p by omega) T L k L.length
   obtain ⟨s, hs⟩ : ∃ s, s = sumR p T L k L.length := ⟨_, rfl⟩
   rw [← hs] at hS hKk sr
   have HO := Lib.hid hown
   clear hs hown
   obtain ⟨x, w3, hgo⟩ : ∃ x : Int, ∃ _w3 : World, x = R.getD k 0 := ⟨_, wr, rfl⟩
   have HX := Lib.hid hgo
   rw [← hgo] at hKk
   clear hgo
   have hxr : 0 ≤ x ∧ x < p := by
    rw [hKk]; split
    ·exact ⟨Int.emod_nonneg _ (by omega), Int.emod_lt_of_pos _ (by omega)⟩
    ·exact sr
   have app : ∀ (w5 : World) (hB5 : Below w2.heap.size w2 w5) (hO5 : OwnU w5 w2.heap.size O k (R.take k)), OwnU w5 w2.heap.size O k (R.take k) := fun _ _ h => h
   clear app
   cases inv with
   | false =>
    obtain rfl : x = s := by simpa using hKk
    clear hKk
    go_wp2_with fail
    refine hS.out.mono ?_
    rintro r w4 ⟨rfl, n4, hw4⟩
    have hB4 : Below w2.heap.size w2 w4 := by rw [hw4]; exact below_drewN hBr _
    have hO4 : OwnU w4 w2.heap.size O k (R.take k) := by rw [hw4]; exact HO.out.drewN _
    have hs4 := hB4.size
    clear hw4 hBr hws
    go_wp2_with (at_builtin; refine wpList_append_own _ rfl _ _ 54 rfl w2.heap.size 22 i0 (.int .u64 0) 1 8 Tryz.underlying54 hi hz0 hz1 hz2 rfl (by decide) _ _ _ rfl (World.ownsRow.alloc hO4 _) ⟨w4.heap.size, 0, none⟩ 1 1 [.int .u64 x] rfl rfl ?c1 ?c2 ?c3 ?c4 ?c5 ?_)
    case c1 =>
     intro j u hj
     match j, hj with
     | 0, hj => simp at hj; subst hj; simp [Addr.add]
    case c2 => intro u hu; simp at hu; subst hu; rfl
    case c3 => unfold maxLen; omega
    case c4 => omega
    case c5 => simp; omega
    intro v' w6 hown' hgrow _
    have hO : OwnU w6 w2.heap.size v' (k + 1) (R.take (k + 1)) := by
     unfold OwnU
     rw [ints_snocU _ _ (by omega), ← HX.out]
     exact hown'
    have hB' := (hB4.alloc hs4 (.cells #[.int .u64 x] 22)).grown hgrow (by simp; omega) (fun k hk => (World.ownsRow.lt hO4 k hk).1)
    have HO' := Lib.hid hO
    clear hgrow hO4 hB4 hown' hO
    go_wp2
    go_roundw
    case rel => exact ⟨k + 1, _, rfl, by go_num, by omega, HO'.out, hB'⟩
    case measure => simp [intOf]; omega
   | true =>
    have HI := Lib.hid (fun w => r6inv_any L.length p w (by omega) (by omega) (by omega) (by omega))
    obtain ⟨iv, hiv⟩ : ∃ iv, iv = (L.length : Int) ^ (p - 2).toNat % p := ⟨_, rfl⟩
    have v0 : 0 ≤ iv := by rw [hiv]; exact Int.emod_nonneg _ (by omega)
    have v1 : iv < p := by rw [hiv]; exact Int.emod_lt_of_pos _ (by omega)
    rw [← hiv] at HI hKk
    have hM := Lib.hid (fun w => r2mul_any s iv p w sr.1 (by omega) v0 (by omega) (by omega) (by omega))
    have hx2 : s * iv % p = x := by simpa using hKk.symm
    rw [hx2] at hM
    clear hiv hKk hx2
    go_wp2_with fail
    refine hS.out.mono ?_
    rintro r w4 ⟨rfl, n4, rfl⟩
    go_wp2_with fail
    refine (HI.out _).mono ?_
    rintro r w4 ⟨rfl, n5, rfl⟩
    go_wp2_with fail
    refine (hM.out _).mono ?_
    rintro r w4 ⟨rfl, n6, hw4⟩
    have hB4 : Below w2.heap.size w2 w4 := by rw [hw4]; first | exact below_drewN (below_drewN (below_drewN hBr _) _) _ | exact below_drewN (below_drewN hBr _) _
    have hO4 : OwnU w4 w2.heap.size O k (R.take k) := by rw [hw4]; exact HO.out
    have hs4 := hB4.size
    clear hw4 hBr hws
    go_wp2_with (at_builtin; refine wpList_append_own _ rfl _ _ 54 rfl w2.heap.size 22 i0 (.int .u64 0) 1 8 Tryz.underlying54 hi hz0 hz1 hz2 rfl (by decide) _ _ _ rfl (World.ownsRow.alloc hO4 _) ⟨w4.heap.size, 0, none⟩ 1 1 [.int .u64 x] rfl rfl ?c1 ?c2 ?c3 ?c4 ?c5 ?_)
    case c1 =>
     intro j u hj
     match j, hj with
     | 0, hj => simp at hj; subst hj; simp [Addr.add]
    case c2 => intro u hu; simp at hu; subst hu; rfl
    case c3 => unfold maxLen; omega
    case c4 => omega
    case c5 => simp; omega
    intro v' w6 hown' hgrow _
    have hO : OwnU w6 w2.heap.size v' (k + 1) (R.take (k + 1)) := by
     unfold OwnU
     rw [ints_snocU _ _ (by omega), ← HX.out]
     exact hown'
    have hB' := (hB4.alloc hs4 (.cells #[.int .u64 x] 22)).grown hgrow (by simp; omega) (fun k hk => (World.ownsRow.lt hO4 k hk).1)
    have HO' := Lib.hid hO
    clear hgrow hO4 hB4 hown' hO
    go_wp2
    go_roundw
    case rel => exact ⟨k + 1, _, rfl, by go_num, by omega, HO'.out, hB'⟩
    case measure => simp [intOf]; omega
  ·obtain rfl : k = L.length := by omega
   have he : R.take L.length = R := List.take_of_length_le (by omega)
   rw [he] at hown
   have HO := Lib.hid (hown.mono hs2)
   have HB := Lib.hid (hBt.trans (hBr.mono hs2))
   clear he hown
   go_wp2
   go_ret
   exact ⟨_, rfl, HO.out, HB.out⟩
end Go.Proofs.YtmalmijdjhkklaaGreat
end
