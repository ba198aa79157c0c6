/- math/bits: Mul64, Len64, LeadingZeros64. -/
import Derived.Test.YtgdadkkiefkimaaProg
import Derived.WalkKit
import Derived.WalkSpells
import Derived.WalkLawsBesides
import Derived.Deep.QuietTactic
import Derived.BigQuiet
import Derived.Lib.Hide
import Derived.Deep.Draws
import Derived.KernelRfl
import Derived.Lib.Strings
import Derived.Lib.Slices
import Derived.Lib.Small
import Derived.Lib.Walk
import Derived.Lib.BitFns
namespace Go.Proofs.Ytgdadkkiefkimaa
open Go.RowKit

theorem ret_int {k : IntKind} {a b : Int} (h : a = b) : Ending.returned (.int k a) = .returned (.int k b) := by rw [h]
theorem ret_int2 {k l : IntKind} {a b c d : Int} (h : a = b) (h' : c = d) : Ending.returned (.tuple #[.int k a, .int l c]) = .returned (.tuple #[.int k b, .int l d]) := by rw [h, h']
theorem ret_bool {a b : Bool} (h : a = b) : Ending.returned (.bool a) = .returned (.bool b) := by rw [h]

theorem mul64_any (x y : Int) (w : World) (hx0 : 0 ≤ x) (hx : x ≤ 18446744073709551615) (hy0 : 0 ≤ y) (hy : y ≤ 18446744073709551615) :
    Calls Try.prog 49 #[.int .u64 x, .int .u64 y] w fun e w' => e = .returned (.tuple #[.int .u64 (x * y / 18446744073709551616), .int .u64 (x * y % 18446744073709551616)]) ∧ w = w' := by
  have a1 := Lib.hid (and_low32 x hx0 (by omega))
  have a2 := Lib.hid (and_low32 y hy0 (by omega))
  go_enter Try.func49, Try.ntmps49
  go_wp2
  go_ret2
  refine ⟨ret_int2 ?_ ?_, rfl⟩
  · rw [and_low32 (IntKind.u64.wrap _) (by rw [IntKind.wrap_u64]; omega) (by rw [IntKind.wrap_u64]; omega), a1.out, a2.out]
    simp only [IntKind.wrap_u64]
    exact mul64_arith x y hx0 (by omega) hy0 (by omega)
  · rw [IntKind.wrap_u64]

theorem len8_at (b : Int) (h0 : 0 ≤ b) (h1 : b ≤ 255) (h : b.toNat < Lib.len8tab.size) : (((Lib.len8tab[b.toNat]'h).toNat : Nat) : Int) = (Lib.bitLen b.toNat : Int) := by
  have e := Lib.len8_of b h0 h1
  unfold Lib.len8 at e
  rw [ByteArray.getElem?_lt' _ _ h] at e
  exact e

theorem wrap_len {k : Int} {A B n : Nat} (l : A ≤ 8) (s : B = n + A) (hk : k = n := by rfl) (hn : n ≤ 64 := by omega) : wrap64 (k + wrap64 (A : Int)) = (B : Int) := by
  unfold wrap64; omega
theorem wrap_len0 {A : Nat} (l : A ≤ 8) : wrap64 (A : Int) = (A : Int) := by
  unfold wrap64; omega
theorem wrap_lz {A : Nat} (l : A ≤ 64) : wrap64 (64 - (A : Int)) = 64 - (A : Int) := by
  unfold wrap64; omega
/- How many bits a number has. -/
set_option maxHeartbeats 400000 in
set_option maxRecDepth 100000 in
theorem len64_any (x : Int) (w : World) (h0 : 0 ≤ x) (h1 : x ≤ 18446744073709551615) :
    Calls Try.prog 79 #[.int .u64 x] w fun e w' => e = .returned (.int .i64 (Lib.bitLen x.toNat)) ∧ w = w' := by
  go_enter Try.func79, Try.ntmps79
  go_wp2
  all_goals first
    | (exfalso; have hsz := Lib.len8tab_size; have := ‹¬ (_ ∧ _ < ((Lib.len8tab.size : Nat) : Int))›; omega)
    | (go_ret; refine ⟨ret_int ?_, rfl⟩)
  · generalize hb : x / 4294967296 / 65536 / 256 = b at *
    have s := Lib.bitLen_shift56 x.toNat (by omega) (by omega)
    have e : x.toNat / 72057594037927936 = b.toNat := by omega
    have l := Lib.bitLen_le8' b (by omega) (by omega)
    rw [len8_at b (by omega) (by omega)]
    rw [e] at s
    exact wrap_len l s
  · generalize hb : x / 4294967296 / 65536 = b at *
    have s := Lib.bitLen_shift48 x.toNat (by omega) (by omega)
    have e : x.toNat / 281474976710656 = b.toNat := by omega
    have l := Lib.bitLen_le8' b (by omega) (by omega)
    rw [len8_at b (by omega) (by omega)]
    rw [e] at s
    exact wrap_len l s
  · generalize hb : x / 4294967296 / 256 = b at *
    have s := Lib.bitLen_shift40 x.toNat (by omega) (by omega)
    have e : x.toNat / 1099511627776 = b.toNat := by omega
    have l := Lib.bitLen_le8' b (by omega) (by omega)
    rw [len8_at b (by omega) (by omega)]
    rw [e] at s
    exact wrap_len l s
  · generalize hb : x / 4294967296 = b at *
    have s := Lib.bitLen_shift32 x.toNat (by omega) (by omega)
    have e : x.toNat / 4294967296 = b.toNat := by omega
    have l := Lib.bitLen_le8' b (by omega) (by omega)
    rw [len8_at b (by omega) (by omega)]
    rw [e] at s
    exact wrap_len l s
  · generalize hb : x / 65536 / 256 = b at *
    have s := Lib.bitLen_shift24 x.toNat (by omega) (by omega)
    have e : x.toNat / 16777216 = b.toNat := by omega
    have l := Lib.bitLen_le8' b (by omega) (by omega)
    rw [len8_at b (by omega) (by omega)]
    rw [e] at s
    exact wrap_len l s
  · generalize hb : x / 65536 = b at *
    have s := Lib.bitLen_shift16 x.toNat (by omega) (by omega)
    have e : x.toNat / 65536 = b.toNat := by omega
    have l := Lib.bitLen_le8' b (by omega) (by omega)
    rw [len8_at b (by omega) (by omega)]
    rw [e] at s
    exact wrap_len l s
  · generalize hb : x / 256 = b at *
    have s := Lib.bitLen_shift8 x.toNat (by omega) (by omega)
    have e : x.toNat / 256 = b.toNat := by omega
    have l := Lib.bitLen_le8' b (by omega) (by omega)
    rw [len8_at b (by omega) (by omega)]
    rw [e] at s
    exact wrap_len l s
  · have l := Lib.bitLen_le8' x (by omega) (by omega)
    rw [len8_at x (by omega) (by omega)]
    exact (congrArg wrap64 (wrap_len0 l)).trans (wrap_len0 l)

theorem bitLen_le64 (x : Int) (h0 : 0 ≤ x) (h1 : x ≤ 18446744073709551615) : Lib.bitLen x.toNat ≤ 64 := Lib.bitLen_le x.toNat 64 (by omega) (by omega)

theorem lz64_any (x : Int) (w : World) (h0 : 0 ≤ x) (h1 : x ≤ 18446744073709551615) :
    Calls Try.prog 68 #[.int .u64 x] w fun e w' => e = .returned (.int .i64 (64 - (Lib.bitLen x.toNat : Int))) ∧ w = w' := by
  have l := bitLen_le64 x h0 h1
  go_enter Try.func68, Try.ntmps68
  go_wp2_with (go_at_call 79; refine (len64_any x _ h0 h1).mono ?_; rintro e w' ⟨rfl, rfl⟩)
  go_ret
  refine ⟨ret_int ?_, rfl⟩
  exact Eq.refl _
end Go.Proofs.Ytgdadkkiefkimaa
