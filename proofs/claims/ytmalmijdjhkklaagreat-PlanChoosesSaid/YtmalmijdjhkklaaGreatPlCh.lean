/- The law PlanChooses. -/
import Derived.Test.YtmalmijdjhkklaaGreatAl18
import Derived.Test.YtmalmijdjhkklaaGreatWPlPPlQOf18
import Derived.Test.YtmalmijdjhkklaaGreatWRef06ToMs18
import Derived.Test.YtmalmijdjhkklaaGreatWOpenOpenPOpenU
import Derived.Test.YtmalmijdjhkklaaGreatPlT
import Derived.Test.YtmalmijdjhkklaaGreatPlFi
set_option linter.unusedVariables false
set_option linter.unusedSimpArgs false
set_option linter.unusedSectionVars false
set_option linter.unusedVariables false
set_option linter.unusedSimpArgs false
namespace Go.Proofs.YtmalmijdjhkklaaGreat
open Go.RowKit
open Alg
theorem chP_rng (p n k : Int) : 0 ≤ (chP p n k).1 ∧ (chP p n k).1 ≤ 6 := by
  unfold chP
  split
  · rename_i hc
    rcases chF_can k (allL p n) (fun x hx => allL_can (chk_rng hc) hc hx) with h | h
    · rw [h]; decide
    · exact canB_K h
  · decide
set_option maxHeartbeats 8000000 in
set_option maxRecDepth 100000 in
theorem planChooses_walk (w : World) (A0 : Option Addr) (c0 : Nat) (kind0 kk0 pp0 : Int) (es0 : List Ent) (x1 : Int) (x2 : Int) (hs0 : SrcA w A0 c0 kind0 kk0 pp0 es0) (h01 : -9223372036854775808 ≤ x1) (h11 : x1 ≤ 9223372036854775807) (h02 : -9223372036854775808 ≤ x2) (h12 : x2 ≤ 9223372036854775807) :
    Calls Tryz.prog 5 #[.agg #[.int .i64 kind0, .int .i64 kk0, .int .u64 pp0, .slice A0 es0.length c0], .int .i64 x1, .int .i64 x2] w fun e w' => e = .returned (.bool true) ∧ Below w.heap.size w w' := by
  have R0 : Hid (RowAt (w.alloc (.cells #[.int .i64 kind0, .int .i64 kk0, .int .u64 pp0, .slice A0 es0.length c0] 25)) w.heap.size 25 #[.int .i64 kind0, .int .i64 kk0, .int .u64 pp0, .slice A0 es0.length c0] ∧ Below w.heap.size w (w.alloc (.cells #[.int .i64 kind0, .int .i64 kk0, .int .u64 pp0, .slice A0 es0.length c0] 25))) := Lib.hid (lay1 w 25 #[.int .i64 kind0, .int .i64 kk0, .int .u64 pp0, .slice A0 es0.length c0])
  have HS := Lib.hid hs0
  have KP : Hid (∀ W W', (RowAt W w.heap.size 25 #[.int .i64 kind0, .int .i64 kk0, .int .u64 pp0, .slice A0 es0.length c0] ∧ Below w.heap.size w W) → Below W.heap.size W W' → (RowAt W' w.heap.size 25 #[.int .i64 kind0, .int .i64 kk0, .int .u64 pp0, .slice A0 es0.length c0] ∧ Below w.heap.size w W')) := Lib.hid (fun W W' h hB => ⟨h.1.keep hB, h.2.trans (hB.mono h.2.size)⟩)
  clear hs0
  go_enter Tryz.func5, Tryz.ntmps5
  go_wp2_with fail
  generalize (w.alloc (.cells #[.int .i64 kind0, .int .i64 kk0, .int .u64 pp0, .slice A0 es0.length c0] 25)) = w1 at *
  refine (alive18_any w1).mono ?_
  rintro e w2 ⟨rfl, hB2⟩
  have R2 := Lib.hid (KP.out _ _ R0.out hB2)
  clear hB2 R0
  go_wp2_with (refine wpList_load_row rfl _ _ rfl _ rfl _ _ _ _ (R2.out.1) Tryz.underlying25 rfl (by exact size_src) ?_)
  refine (made_src (HS.out.below R2.out.2)).mono ?_
  rintro e w3 ⟨v, p, g, rfl, hM, hB3⟩
  have R3 := Lib.hid (KP.out _ _ R2.out hB3)
  have HM := Lib.hid hM
  clear hB3 R2 hM HS
  by_cases hl : 120 < x1 ∧ x1 ≤ 1024
  · have t1 : decide (x1 > 120) = true := decide_eq_true hl.1
    have t2 : decide (x1 ≤ 1024) = true := decide_eq_true hl.2
    clear hl
    go_wp2
    go_ret
    exact ⟨rfl, R3.out.2⟩
  go_upto_region 4 with fail
  go_cut [27] (fun v wx => v = .bool false ∧ w3 = wx)
  case first =>
    by_cases h1 : 120 < x1
    · have t1 : decide (x1 > 120) = true := decide_eq_true h1
      have t2 : decide (x1 ≤ 1024) = false := decide_eq_false (by omega)
      clear h1 hl
      go_wp2
      go_meet
      exact ⟨rfl, rfl⟩
    · have t1 : decide (x1 > 120) = false := decide_eq_false h1
      clear h1 hl
      go_wp2
      go_meet
      exact ⟨rfl, rfl⟩
  case rest =>
    obtain ⟨rfl, rfl⟩ := hcut
    clear hl
    rcases HM.out with ⟨rfl, rfl, rfl⟩ | ⟨p3, _, hFd⟩
    · clear HM
      go_wp2_with fail
      refine (choose_nil x1 x2 w3).mono ?_
      rintro e w4 ⟨rfl, hB4⟩
      have R4 := Lib.hid (KP.out _ _ R3.out hB4)
      have R5 := Lib.hid (lay1 w4 36 (cellsP (0, 0, 0)))
      have HB5 := Lib.hid (R4.out.2.trans (R5.out.2.mono R4.out.2.size))
      have heq := fun W => eq_plan 0 0 0 0 0 0 W
      unfold planV at heq
      simp only [cellsP] at R5 HB5 ⊢
      clear hB4 R3 R4
      go_wp2_with (refine wpList_load_row rfl _ _ rfl _ rfl _ _ _ _ (R5.out.1) Tryz.underlying36 rfl (by exact size_plan) ?_)
      go_ret
      exact ⟨by first | rfl | simp, HB5.out⟩
    · have pm := hFd.pmx
      have tp : (p == 0) = false := by simp; omega
      obtain ⟨q, rfl⟩ : ∃ q, v = .pointer q := by
        obtain ⟨b, _, _, _, _, _, e, _⟩ := hFd
        exact ⟨_, e⟩
      have HF := Lib.hid (choose_any hFd x1 x2 h01 h11)
      have HG := Lib.hid (fun W => r18choose_any p x1 x2 p3 pm h01 h11 W)
      have hr := chP_rng p x1 x2
      obtain ⟨⟨b0, b1, b2⟩, hb⟩ : ∃ b, b = chP p x1 x2 := ⟨_, rfl⟩
      obtain ⟨er, her⟩ : ∃ er, er = chE p x1 x2 := ⟨_, rfl⟩
      rw [← hb, ← her] at HF HG
      rw [← hb] at hr
      have HI := Lib.hid (fun W => is18_any b0 b1 b2 b0 b1 b2 (by simp at hr; omega) (by simp at hr; omega) W)
      have hbt : (b0 == b0 && b1 == b1 && b2 == b2) = true := by simp
      have tt : (er == er) = true := by simp
      rw [hbt] at HI
      simp only [cellsP] at HF HG
      clear HM hFd hb her hr hbt
      go_wp2_with fail
      refine HF.out.mono ?_
      rintro e w4 ⟨rfl, hB4⟩
      have R4 := Lib.hid (KP.out _ _ R3.out hB4)
      have R5 : Hid (RowAt (w4.alloc (.cells #[.int .i64 b0, .int .i64 b1, .int .i64 b2] 36)) w4.heap.size 36 #[.int .i64 b0, .int .i64 b1, .int .i64 b2] ∧ Below w.heap.size w (w4.alloc (.cells #[.int .i64 b0, .int .i64 b1, .int .i64 b2] 36))) := Lib.hid (by
        have h := lay1 w4 36 #[.int .i64 b0, .int .i64 b1, .int .i64 b2]
        exact ⟨h.1, R4.out.2.trans (h.2.mono R4.out.2.size)⟩)
      clear hB4 R3 R4 HF
      go_wp2_with fail
      refine (HG.out _).mono ?_
      rintro e w6 ⟨rfl, hB6⟩
      have R6 : Hid (RowAt w6 w4.heap.size 36 #[.int .i64 b0, .int .i64 b1, .int .i64 b2] ∧ Below w.heap.size w w6) := Lib.hid ⟨R5.out.1.keep hB6, R5.out.2.trans (hB6.mono R5.out.2.size)⟩
      have R7 : Hid (RowAt (w6.alloc (.cells #[.int .i64 b0, .int .i64 b1, .int .i64 b2] 27)) w4.heap.size 36 #[.int .i64 b0, .int .i64 b1, .int .i64 b2] ∧ RowAt (w6.alloc (.cells #[.int .i64 b0, .int .i64 b1, .int .i64 b2] 27)) w6.heap.size 27 #[.int .i64 b0, .int .i64 b1, .int .i64 b2] ∧ Below w.heap.size w (w6.alloc (.cells #[.int .i64 b0, .int .i64 b1, .int .i64 b2] 27))) := Lib.hid ⟨R6.out.1.alloc _, RowAt.new _ _ _, R6.out.2.alloc R6.out.2.size _⟩
      clear hB6 R5 R6 HG
      go_wp2_with (first | (refine wpList_load_row rfl _ _ rfl _ rfl _ _ _ _ (R7.out.1) Tryz.underlying36 rfl (by exact size_plan) ?_) | (refine wpList_load_row rfl _ _ rfl _ rfl _ _ _ _ (R7.out.2.1) Tryz.underlying27 rfl (by exact size_rplan) ?_) | (go_at_call 24; refine (HI.out _).mono ?_; rintro e w8 ⟨rfl, hB8⟩))
      go_wp2
      go_ret
      exact ⟨by first | rfl | simp, R7.out.2.2.trans (hB8.mono R7.out.2.2.size)⟩
end Go.Proofs.YtmalmijdjhkklaaGreat
