/- The known primes' rows are right: reckoned. -/
import Derived.Test.YtgdadkkiefkimaaRight
namespace Go.Proofs.Ytgdadkkiefkimaa

/-- A power modulo m, by halves. -/
def powm : Nat → Nat → Nat → Nat → Nat
  | 0, _, _, m => 1 % m
  | f + 1, a, e, m => if e = 0 then 1 % m else (if e % 2 = 1 then a * powm f (a * a % m) (e / 2) m % m else powm f (a * a % m) (e / 2) m)
theorem powm_eq (f : Nat) : ∀ a e m : Nat, e < 2 ^ f → powm f a e m = a ^ e % m := by
  induction f with
  | zero => intro a e m h; have : e = 0 := by simpa using h
            subst this; simp [powm]
  | succ f ih =>
    intro a e m h
    have hm : ∀ k : Nat, (a * a % m) ^ k % m = (a * a) ^ k % m := fun k => (Nat.pow_mod (a * a) k m).symm ▸ rfl
    unfold powm
    by_cases he : e = 0
    · rw [if_pos he, he]; simp
    · rw [if_neg he, ih _ _ _ (by rw [Nat.pow_succ] at h; omega), hm]
      have hs : a ^ e = (a * a) ^ (e / 2) * a ^ (e % 2) := by
        conv => lhs; rw [← Nat.div_add_mod e 2]
        rw [Nat.pow_add, Nat.pow_mul, Nat.pow_two]
      by_cases ho : e % 2 = 1
      · rw [if_pos ho, hs, ho, Nat.pow_one, Nat.mul_mod, Nat.mod_mod, ← Nat.mul_mod, Nat.mul_comm]
      · rw [if_neg ho, hs, show e % 2 = 0 by omega]; simp
theorem powm_int {g p : Int} (k : Nat) (hg : 0 ≤ g) (hp : 0 ≤ p) (hk : k < 2 ^ 64) : g ^ k % p = ((powm 64 g.toNat k p.toNat : Nat) : Int) := by
  rw [powm_eq 64 _ _ _ hk]
  obtain ⟨a, rfl⟩ := Int.eq_ofNat_of_zero_le hg
  obtain ⟨b, rfl⟩ := Int.eq_ofNat_of_zero_le hp
  simp

def wholeB (ahead : List Ent) (e : Ent) : Bool :=
  decide (1 ≤ e.fs.length) && decide (e.fs.length ≤ 16) && decide ((e.fs.getD 0 (0, 0)).1 = 2) &&
  (List.range e.fs.length).all (fun k => decide (1 ≤ (e.fs.getD k (0, 0)).2) && decide ((e.fs.getD k (0, 0)).2 ≤ 62)) &&
  (List.range (e.fs.length - 1)).all (fun k => decide ((e.fs.getD k (0, 0)).1 < (e.fs.getD (k + 1) (0, 0)).1) && ahead.any (fun x => x.p == (e.fs.getD (k + 1) (0, 0)).1)) &&
  decide (prodI e.fs = e.p - 1)
theorem wholeB_ok {ahead : List Ent} {e : Ent} (h : wholeB ahead e = true) : WholeP ahead e := by
  simp only [wholeB, Bool.and_eq_true, decide_eq_true_eq, List.all_eq_true, List.mem_range] at h
  obtain ⟨⟨⟨⟨⟨a, b⟩, c⟩, d⟩, f⟩, g⟩ := h
  exact ⟨a, b, c, d, fun k hk => f k (by omega), g⟩
def fullB (e : Ent) : Bool :=
  decide (powm 64 e.g.toNat (e.p - 1).toNat e.p.toNat = 1) && e.fs.all (fun x => decide (powm 64 e.g.toNat ((e.p - 1) / x.1).toNat e.p.toNat ≠ 1) && decide (1 ≤ x.1))
theorem fullB_ok {e : Ent} (hp : 3 ≤ e.p) (hpm : e.p < 9223372036854775808) (hg : 0 ≤ e.g) (h : fullB e = true) : FullP e := by
  simp only [fullB, Bool.and_eq_true, decide_eq_true_eq, List.all_eq_true] at h
  refine ⟨?_, fun x hx => ?_⟩
  · rw [powm_int _ hg (by omega) (by omega), h.1]; rfl
  · have := h.2 x hx
    have h1 : (e.p - 1) / x.1 ≤ e.p - 1 := Int.ediv_le_self _ (by omega)
    rw [powm_int _ hg (by omega) (by omega)]
    intro h2
    exact this.1 (by omega)
def rightB (ahead : List Ent) (e : Ent) : Bool :=
  decide (e.p % 2 = 1) && decide (3 ≤ e.p) && decide (e.p < 9223372036854775808) && decide (2 ≤ e.g) && decide (e.g < e.p) &&
  (decide (ahead.length = 0) || decide ((ahead.getD (ahead.length - 1) Ent.none).p < e.p)) && wholeB ahead e && fullB e
theorem rightB_ok {ahead : List Ent} {e : Ent} (h : rightB ahead e = true) : RightP ahead e := by
  simp only [rightB, Bool.and_eq_true, Bool.or_eq_true, decide_eq_true_eq] at h
  obtain ⟨⟨⟨⟨⟨⟨⟨a, b⟩, c⟩, d⟩, f⟩, g⟩, i⟩, j⟩ := h
  exact ⟨a, b, c, d, f, fun h0 => by rcases g with g | g <;> omega, wholeB_ok i, fullB_ok b c (by omega) j⟩
def allB (es : List Ent) : Bool := decide (es.length ≤ 32) && (List.range es.length).all (fun j => rightB (es.take j) (es.getD j Ent.none))
theorem allB_ok {es : List Ent} (h : allB es = true) : es.length ≤ 32 ∧ ∀ j, j < es.length → RightP (es.take j) (es.getD j Ent.none) := by
  simp only [allB, Bool.and_eq_true, decide_eq_true_eq, List.all_eq_true, List.mem_range] at h
  exact ⟨h.1, fun j hj => rightB_ok (h.2 j hj)⟩

def e3 : Ent := ⟨3, 2, [(2, 1)]⟩
def e5 : Ent := ⟨5, 2, [(2, 2)]⟩
def e7 : Ent := ⟨7, 3, [(2, 1), (3, 1)]⟩
def e29 : Ent := ⟨29, 2, [(2, 2), (7, 1)]⟩
def k0 : Ent := ⟨4179340454199820289, 3, [(2, 57), (29, 1)]⟩
def k1 : Ent := ⟨1945555039024054273, 5, [(2, 56), (3, 3)]⟩
def k2 : Ent := ⟨180143985094819841, 6, [(2, 55), (5, 1)]⟩
def k3 : Ent := ⟨754974721, 11, [(2, 24), (3, 2), (5, 1)]⟩
def k4 : Ent := ⟨469762049, 3, [(2, 26), (7, 1)]⟩
def k5 : Ent := ⟨167772161, 3, [(2, 25), (5, 1)]⟩
/-- The rows of the known primes. -/
def knownE (i : Int) : List Ent :=
  if i = 0 then [e3, e7, e29, k0] else if i = 1 then [e3, k1] else if i = 2 then [e5, k2] else if i = 3 then [e3, e5, k3] else if i = 4 then [e3, e7, k4] else if i = 5 then [e5, k5] else []
theorem right0 : allB [e3, e7, e29, k0] = true := by decide +kernel
theorem right1 : allB [e3, k1] = true := by decide +kernel
theorem right2 : allB [e5, k2] = true := by decide +kernel
theorem right3 : allB [e3, e5, k3] = true := by decide +kernel
theorem right4 : allB [e3, e7, k4] = true := by decide +kernel
theorem right5 : allB [e5, k5] = true := by decide +kernel
end Go.Proofs.Ytgdadkkiefkimaa
