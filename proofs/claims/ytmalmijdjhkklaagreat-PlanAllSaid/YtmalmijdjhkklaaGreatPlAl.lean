/- The law PlanAll. -/
import Derived.Test.YtmalmijdjhkklaaGreatAl18
import Derived.Test.YtmalmijdjhkklaaGreatWPlPPlQOf18
import Derived.Test.YtmalmijdjhkklaaGreatWRef06ToMs18
import Derived.Test.YtmalmijdjhkklaaGreatWOpenOpenPOpenU
import Derived.Test.YtmalmijdjhkklaaGreatPlT
import Derived.Test.YtmalmijdjhkklaaGreatPlFi
import Derived.Sort.CutIn
set_option linter.unusedVariables false
set_option linter.unusedSimpArgs false
set_option linter.unusedSectionVars false
set_option linter.unusedVariables false
set_option linter.unusedSimpArgs false
namespace Go.Proofs.YtmalmijdjhkklaaGreat
open Go.RowKit
open Alg
attribute [local go_sem] Oper.semAt_some
theorem run_loadVar_one {P : Program} (w : World) (a : Addr) (ty : TypeId) (v : Value) (d : TypeDesc) (hc : w.cell? a = some v)
    (hu : P.underlying ty = some d) (hd : (match d with | .struct _ | .array _ _ => true | _ => false) = false) : (loadVar ty a).run P w = .ok v w := by
  have hagg : (isAgg ty).run P w = .ok false w := by
    unfold isAgg
    rw [Sem.run_bind, run_underlying hu w]
    cases d <;> simp_all
  simp [loadVar, Sem.run_bind, hagg, hc, go_sem]
theorem results_cell_one {P : Program} {fn : Func} {q : Tmp} {ty : TypeId} (h : fn.results = #[.cell q ty]) (tmps : Array Value) (w : World) (b : Nat) (v : Value) (d : TypeDesc)
    (hp : tmps.getD q undef = .pointer (some ⟨b, 0, none⟩)) (hc : w.cell? ⟨b, 0, none⟩ = some v) (hu : P.underlying ty = some d) (hd : (match d with | .struct _ | .array _ _ => true | _ => false) = false) :
    (results fn tmps).run P w = .ok v w := by
  have hp' : tmps[q]?.getD undef = .pointer (some ⟨b, 0, none⟩) := by simpa using hp
  simp [results, h, hp', asAddr, run_loadVar_one w _ ty v d hc hu hd]
set_option maxHeartbeats 4000000 in
set_option maxRecDepth 100000 in
theorem all_gives_no (q : Option Addr) (n : Int) (bf bn : Nat) (c : Int) (hc : c ≠ 0) (Cap : World → Prop) (hcap : ∀ W, Cap W → CapAny (.pointer q) n bf bn W) (hck : ∀ W, Cap W → Calls Tryz.prog 53 #[.pointer q, .int .i64 n] W fun e w' => e = .returned (.int .i64 c) ∧ W = w') (W0 : World) :
    Gives Tryz.prog 61 #[.pointer (some ⟨bf, 0, none⟩), .pointer (some ⟨bn, 0, none⟩)] encP [] Cap W0 := fun l m J Jx hK hKx hC hY h0 => by
  have R1 := Lib.hid (lay1 W0 99 #[.func (.yield l) #[] #[]])
  have hJ1 := hK _ _ _ h0 R1.out.2
  have hCa := hC _ _ hJ1
  have HCk := Lib.hid (hck _ hCa)
  obtain ⟨cf, cn⟩ := hcap _ hCa
  have tc : (c != 0) = true := by simpa using hc
  have HJ1 := Lib.hid hJ1
  have hF47 : Fence.wide.fn 53 := trivial
  have e47 : ∀ args w, (callFunc 53 args).run Tryz.prog w = .ok (.enter 53 args) w := enters_of Tryz.func53 (by kernel_rfl) rfl
  clear hC hK hKx hY hJ1 h0 hck hc hCa hcap
  refine callsIn_wide.2 ((callsIn_wide (n := 3)).1 ?_)
  refine callsIn_of_wp_marks Tryz.func61 rfl trivial ?_ rfl
  simp only [Tryz.ntmps61, List.size_toArray, List.length_cons, List.length_nil, Nat.reduceAdd, Nat.reduceSub, Array.replicate_succ, Array.replicate_zero, List.push_toArray, List.append_toArray, List.nil_append, List.cons_append]
  gi_wp2_with (gi_at_call 53; refine (callsIn_wide.2 HCk.out).mono ?_; rintro r w2 ⟨rfl, rfl⟩)
  exact ⟨_, results_none rfl _ _ _, ⟨_, rfl⟩, .inl HJ1.out⟩
/-- Between two rounds of the law: so many plans came. -/
structure AlI (w : World) (x2 : Int) (X10 X11 : Nat) (L : List PlT) (A : Option Addr) (cA G B0 : Nat) (v : Value) (p g n : Int) (bf bn : Nat) (k : Nat) (W : World) : Prop where
  below : Below w.heap.size w W
  r5 : RowAt W (w.heap.size + 1) 3 #[.int .i64 x2]
  r6 : RowAt W (w.heap.size + 2) 4 #[.bool false]
  r10 : RowAt W X10 42 #[.slice A L.length cA]
  r11 : RowAt W X11 3 #[.int .i64 (k : Int)]
  rng : ∀ j, j < L.length → W.rangeAt G (j * 3) [.int .i64 (L.getD j (0, 0, 0)).1, .int .i64 (L.getD j (0, 0, 0)).2.1, .int .i64 (L.getD j (0, 0, 0)).2.2]
  fd : v = .pointer none ∨ Fd W B0 v p g
  cf : W.cell? ⟨bf, 0, none⟩ = some v
  cn : W.cell? ⟨bn, 0, none⟩ = some (.int .i64 n)
/-- Where all that lies. -/
structure AlB (w : World) (X10 X11 : Nat) (L : List PlT) (G B0 bf bn B : Nat) : Prop where
  o1 : w.heap.size + 2 < X10
  o2 : X10 < X11
  oG : 0 < L.length → w.heap.size + 2 < G ∧ G < X11 ∧ G ≠ X10
  o6 : X11 < bf
  o7 : X11 < bn
  o8 : B0 ≤ X11
  o9 : bf < B
  o10 : bn < B
theorem AlI.low {w : World} {x2 : Int} {X10 X11 : Nat} {L : List PlT} {A : Option Addr} {cA G B0 : Nat} {v : Value} {p g n : Int} {bf bn k B : Nat} {W W' : World} (h : AlI w x2 X10 X11 L A cA G B0 v p g n bf bn k W) (o : AlB w X10 X11 L G B0 bf bn B) (hb : Below B W W') : AlI w x2 X10 X11 L A cA G B0 v p g n bf bn k W' := by
  obtain ⟨o1, o2, oG, o6, o7, o8, o9, o10⟩ := o
  exact ⟨h.below.trans (hb.mono (by omega)), h.r5.below hb (by omega), h.r6.below hb (by omega), h.r10.below hb (by omega), h.r11.below hb (by omega),
    fun j hj i u hu => cell_low hb (by have := oG (by omega); simp; omega) (h.rng j hj i u hu), h.fd.imp id (fun f => f.below (hb.mono (by omega))), cell_low hb (by simp; omega) h.cf, cell_low hb (by simp; omega) h.cn⟩
theorem AlI.set {w : World} {x2 : Int} {X10 X11 : Nat} {L : List PlT} {A : Option Addr} {cA G B0 : Nat} {v : Value} {p g n : Int} {bf bn k B : Nat} {W : World} (h : AlI w x2 X10 X11 L A cA G B0 v p g n bf bn k W) (o : AlB w X10 X11 L G B0 bf bn B) : AlI w x2 X10 X11 L A cA G B0 v p g n bf bn (k + 1) (W.setCell ⟨X11, 0, none⟩ (.int .i64 ((k : Int) + 1))) := by
  obtain ⟨o1, o2, oG, o6, o7, o8, o9, o10⟩ := o
  have hs : Below X11 W (W.setCell ⟨X11, 0, none⟩ (.int .i64 ((k : Int) + 1))) := below_setCell (Below.refl _ _) (Nat.le_refl _) 0 _
  exact ⟨h.below.trans (hs.mono (by omega)), h.r5.below hs (by omega), h.r6.below hs (by omega), h.r10.below hs (by omega), by
      have := h.r11.set 0 (.int .i64 ((k : Int) + 1))
      simpa using this,
    fun j hj i u hu => cell_low hs (by have := oG (by omega); simp; omega) (h.rng j hj i u hu), h.fd.imp id (fun f => f.below (hs.mono (by omega))), cell_set_other h.cf (by simp; omega), cell_set_other h.cn (by simp; omega)⟩
set_option maxHeartbeats 8000000 in
set_option maxRecDepth 100000 in
theorem planAll_walk (w : World) (A0 : Option Addr) (c0 : Nat) (kind0 kk0 pp0 : Int) (es0 : List Ent) (x1 : Int) (x2 : Int) (hs0 : SrcA w A0 c0 kind0 kk0 pp0 es0) (h01 : -9223372036854775808 ≤ x1) (h11 : x1 ≤ 9223372036854775807) (h02 : -9223372036854775808 ≤ x2) (h12 : x2 ≤ 9223372036854775807) :
    Calls Tryz.prog 4 #[.agg #[.int .i64 kind0, .int .i64 kk0, .int .u64 pp0, .slice A0 es0.length c0], .int .i64 x1, .int .i64 x2] w fun e w' => e = .returned (.bool true) ∧ Below w.heap.size w w' := by
  have R0 : Hid (RowAt (((w.alloc (.cells #[.int .i64 kind0, .int .i64 kk0, .int .u64 pp0, .slice A0 es0.length c0] 25)).alloc (.cells #[.int .i64 x2] 3)).alloc (.cells #[.bool false] 4)) w.heap.size 25 #[.int .i64 kind0, .int .i64 kk0, .int .u64 pp0, .slice A0 es0.length c0] ∧ RowAt (((w.alloc (.cells #[.int .i64 kind0, .int .i64 kk0, .int .u64 pp0, .slice A0 es0.length c0] 25)).alloc (.cells #[.int .i64 x2] 3)).alloc (.cells #[.bool false] 4)) (w.heap.size + 1) 3 #[.int .i64 x2] ∧ RowAt (((w.alloc (.cells #[.int .i64 kind0, .int .i64 kk0, .int .u64 pp0, .slice A0 es0.length c0] 25)).alloc (.cells #[.int .i64 x2] 3)).alloc (.cells #[.bool false] 4)) (w.heap.size + 2) 4 #[.bool false] ∧ Below w.heap.size w (((w.alloc (.cells #[.int .i64 kind0, .int .i64 kk0, .int .u64 pp0, .slice A0 es0.length c0] 25)).alloc (.cells #[.int .i64 x2] 3)).alloc (.cells #[.bool false] 4))) := Lib.hid (lay3 w 25 3 4 #[.int .i64 kind0, .int .i64 kk0, .int .u64 pp0, .slice A0 es0.length c0] #[.int .i64 x2] #[.bool false])
  have HS := Lib.hid hs0
  have KP : Hid (∀ W W', (RowAt W w.heap.size 25 #[.int .i64 kind0, .int .i64 kk0, .int .u64 pp0, .slice A0 es0.length c0] ∧ RowAt W (w.heap.size + 1) 3 #[.int .i64 x2] ∧ RowAt W (w.heap.size + 2) 4 #[.bool false] ∧ Below w.heap.size w W) → Below W.heap.size W W' → (RowAt W' w.heap.size 25 #[.int .i64 kind0, .int .i64 kk0, .int .u64 pp0, .slice A0 es0.length c0] ∧ RowAt W' (w.heap.size + 1) 3 #[.int .i64 x2] ∧ RowAt W' (w.heap.size + 2) 4 #[.bool false] ∧ Below w.heap.size w W')) := Lib.hid (fun W W' h hB => ⟨h.1.keep hB, h.2.1.keep hB, h.2.2.1.keep hB, h.2.2.2.trans (hB.mono h.2.2.2.size)⟩)
  have HA := Lib.hid (fun W => alive18_any W)
  have hF14 : Fence.wide.fn 14 := trivial
  have e14 : ∀ args w, (callFunc 14 args).run Tryz.prog w = .ok (.enter 14 args) w := enters_of Tryz.func14 (by kernel_rfl) rfl
  have hF15 : Fence.wide.fn 15 := trivial
  have e15 : ∀ args w, (callFunc 15 args).run Tryz.prog w = .ok (.enter 15 args) w := enters_of Tryz.func15 (by kernel_rfl) rfl
  have hF21 : Fence.wide.fn 21 := trivial
  have e21 : ∀ args w, (callFunc 21 args).run Tryz.prog w = .ok (.enter 21 args) w := enters_of Tryz.func21 (by kernel_rfl) rfl
  have hF22 : Fence.wide.fn 22 := trivial
  have e22 : ∀ args w, (callFunc 22 args).run Tryz.prog w = .ok (.enter 22 args) w := enters_of Tryz.func22 (by kernel_rfl) rfl
  have hF23 : Fence.wide.fn 23 := trivial
  have e23 : ∀ args w, (callFunc 23 args).run Tryz.prog w = .ok (.enter 23 args) w := enters_of Tryz.func23 (by kernel_rfl) rfl
  have hF24 : Fence.wide.fn 24 := trivial
  have e24 : ∀ args w, (callFunc 24 args).run Tryz.prog w = .ok (.enter 24 args) w := enters_of Tryz.func24 (by kernel_rfl) rfl
  have e55 : ∀ args w, (callFunc 61 args).run Tryz.prog w = .ok (.enter 61 args) w := enters_of Tryz.func61 (by kernel_rfl) rfl
  clear hs0
  refine (callsIn_wide (n := 4)).1 ?_
  refine callsIn_of_wp_marks Tryz.func4 rfl trivial ?_ rfl
  simp only [Tryz.ntmps4, List.size_toArray, List.length_cons, List.length_nil, Nat.reduceAdd, Nat.reduceSub, Array.replicate_succ, Array.replicate_zero, List.push_toArray, List.append_toArray, List.nil_append, List.cons_append]
  gi_wp2_with (gi_at_call 14; refine (callsIn_wide.2 (HA.out _)).mono ?_; rintro r w2 ⟨rfl, hB2⟩; have R2 := Lib.hid (KP.out _ _ R0.out hB2); clear hB2; have d0 := R2.out.1.cell (i := 0) (v := .int .i64 kind0) rfl; have d1 := R2.out.1.cell (i := 1) (v := .int .i64 kk0) rfl; have d2 := R2.out.1.cell (i := 2) (v := .int .u64 pp0) rfl; have d3 := R2.out.1.cell (i := 3) (v := .slice A0 es0.length c0) rfl; have HMd := Lib.hid (made_src (HS.out.below R2.out.2.2.2)))
  refine (callsIn_wide.2 HMd.out).mono ?_
  rintro r w3 ⟨v, p, g, rfl, hM, hB3⟩
  have R3 := Lib.hid (KP.out _ _ R2.out hB3)
  have HM := Lib.hid hM
  clear hB3 R2 hM HS d0 d1 d2 d3 HMd R0 HA
  by_cases hl : 120 < x1 ∧ x1 ≤ 1024
  · have t1 : decide (x1 > 120) = true := decide_eq_true hl.1
    have t2 : decide (x1 ≤ 1024) = true := decide_eq_true hl.2
    have c6 := R3.out.2.2.1.cell (i := 0) (v := .bool false) rfl
    have f6 := R3.out.2.2.1.frozen 0
    have R4 := Lib.hid (R3.out.2.2.1.set 0 (.bool true))
    have HB4 := Lib.hid (below_setCell R3.out.2.2.2 (show w.heap.size ≤ w.heap.size + 2 by omega) 0 (.bool true))
    clear hl
    gi_wp2
    exact ⟨_, results_cell_one rfl _ _ _ _ _ (by rfl) (R4.out.cell (i := 0) (v := .bool true) rfl) Tryz.underlying4 rfl, rfl, HB4.out⟩
  gi_upto_region 4 with fail
  gi_cut [26] from 27 (fun v wx => v = .bool false ∧ w3 = wx)
  case first =>
    by_cases h1 : 120 < x1
    · have t1 : decide (x1 > 120) = true := decide_eq_true h1
      have t2 : decide (x1 ≤ 1024) = false := decide_eq_false (by omega)
      clear h1 hl
      gi_wp2
      gi_meet
      exact ⟨rfl, rfl⟩
    · have t1 : decide (x1 > 120) = false := decide_eq_false h1
      clear h1 hl
      gi_wp2
      gi_meet
      exact ⟨rfl, rfl⟩
  case rest =>
    obtain ⟨rfl, rfl⟩ := hcut
    clear hl
    rcases HM.out with ⟨rfl, rfl, rfl⟩ | ⟨p3, _, hFd⟩
    · clear HM
      have hw3 := R3.out.2.2.1.lt
      have HPa := Lib.hid (fun W => planall_any none x1 W)
      gi_wp2_with fail
      refine (callsIn_wide.2 (HPa.out _)).mono ?_
      rintro r w8 ⟨rfl, hB8, hs8, c0, c1⟩
      obtain ⟨X10, hX⟩ : ∃ X, X = w3.heap.size := ⟨_, rfl⟩
      have HI0 : Hid (AlI w x2 X10 (X10 + 1) [] none 0 0 0 (.pointer none) 0 0 x1 (X10 + 2) (X10 + 3) 0 w8) := Lib.hid (by
        subst hX
        have h0 := lay2 w3 42 3 #[.slice none 0 0] #[.int .i64 0]
        have hb := h0.2.2.trans (hB8.mono h0.2.2.size)
        exact ⟨R3.out.2.2.2.trans (hb.mono R3.out.2.2.2.size), R3.out.2.1.keep hb, R3.out.2.2.1.keep hb, h0.1.keep hB8, h0.2.1.keep hB8, fun j hj => absurd hj (Nat.not_lt_zero j), .inl rfl, by simpa [Nat.add_assoc] using c0, by simpa [Nat.add_assoc] using c1⟩)
      have HB8 : Hid (AlB w X10 (X10 + 1) [] 0 0 (X10 + 2) (X10 + 3) w8.heap.size) := Lib.hid (by
        subst hX
        simp only [World.size_alloc] at hs8
        exact ⟨hw3, by omega, fun h => absurd h (Nat.lt_irrefl 0), by omega, by omega, by omega, by omega, by omega⟩)
      simp only [World.size_alloc]
      rw [← hX]
      obtain ⟨bf, hbf⟩ : ∃ b, b = X10 + 2 := ⟨_, rfl⟩
      obtain ⟨bn, hbn⟩ : ∃ b, b = X10 + 3 := ⟨_, rfl⟩
      obtain ⟨X11, hX11⟩ : ∃ b, b = X10 + 1 := ⟨_, rfl⟩
      rw [show X10 + 1 + 1 + 1 = bn by omega, show X10 + 1 + 1 = bf by omega, ← hX11]
      rw [← hbf, ← hbn, ← hX11] at HI0 HB8
      clear hB8 hs8 c0 c1 hX hbf hbn hX11 R3
      gi_wp2_with fail
      refine range_gives_k (gf := 61) (lb := #[.pointer (some ⟨bf, 0, none⟩), .pointer (some ⟨bn, 0, none⟩)]) rfl e55
        (fun W0' _ _ => all_gives_no none x1 bf bn 2 (by decide) (CapAny (.pointer none) x1 bf bn) (fun W h => h) (fun W _ => pcheck_nil x1 W) W0') (fun _ => rfl)
        (fun s W => AlI w x2 X10 X11 [] none 0 0 0 (.pointer none) 0 0 x1 bf bn s.length W) (fun c s W => c = .exit 0 ∧ AlI w x2 X10 X11 [] none 0 0 0 (.pointer none) 0 0 x1 bf bn s.length W ∧ (s.length : Int) = x2) ?hI ?hIx ?hC ?h0 ?hround ?hdone ?hstop
      case hI => exact fun s W W' h hb => h.low HB8.out hb
      case hIx => exact fun c s W W' h hb => ⟨h.1, h.2.1.low HB8.out hb, h.2.2⟩
      case hC => exact fun s W h => ⟨h.cf, h.cn⟩
      case h0 => exact HI0.out
      case hround => exact fun m pre x W KK hsz hW hpre => absurd hpre (by simp)
      case hdone =>
        rintro W hsz hW hD
        have c5 := hW.r5.cell (i := 0) (v := .int .i64 x2) rfl
        have c6 := hW.r6.cell (i := 0) (v := .bool false) rfl
        have f6 := hW.r6.frozen 0
        have c10 := hW.r10.cell (i := 0) (v := .slice none 0 0) rfl
        have c11 := hW.r11.cell (i := 0) (v := .int .i64 (0 : Int)) rfl
        have R6 := Lib.hid (hW.r6.set 0 (.bool true))
        have ho1 := HB8.out.o1
        have ho2 := HB8.out.o2
        have ho9 := HB8.out.o9
        have ho6 := HB8.out.o6
        have HD3 : Hid ((W.setCell ⟨w.heap.size + 2, 0, none⟩ (.bool true)).heap[w8.heap.size]? = some (.deferred (some []))) := Lib.hid (by
          rw [heap_setCell_other _ _ _ _ (by simp; omega)]; exact hD)
        have HB6 := Lib.hid (below_setCell hW.below (show w.heap.size ≤ w.heap.size + 2 by omega) 0 (.bool true))
        clear hD hW
        by_cases he : (0 : Int) = x2
        · have te : ((0 : Int) == x2) = true := by simpa using he
          clear he
          gi_wp2
          refine ⟨by simp, .inl ⟨_, _, rfl, run_takeDeferred HD3.out, ?_⟩⟩
          refine ⟨_, results_cell_one rfl _ _ _ _ _ (by rfl) (RowAt.cell (t := 4) (c := #[.bool true]) (by unfold RowAt; rw [World.putObj_heap_other (by omega)]; exact R6.out) (i := 0) (v := .bool true) rfl) Tryz.underlying4 rfl, rfl, HB6.out.trans (below_putObj _ _ (by omega))⟩
        · have te : ((0 : Int) == x2) = false := by simpa using he
          clear he
          gi_wp2
          refine ⟨by simp, .inl ⟨_, _, rfl, run_takeDeferred HD3.out, ?_⟩⟩
          refine ⟨_, results_cell_one rfl _ _ _ _ _ (by rfl) (RowAt.cell (t := 4) (c := #[.bool true]) (by unfold RowAt; rw [World.putObj_heap_other (by omega)]; exact R6.out) (i := 0) (v := .bool true) rfl) Tryz.underlying4 rfl, rfl, HB6.out.trans (below_putObj _ _ (by omega))⟩
      case hstop =>
        rintro c pre W hsz hpre ⟨rfl, hW, hx⟩ hD
        have c5 := hW.r5.cell (i := 0) (v := .int .i64 x2) rfl
        have c6 := hW.r6.cell (i := 0) (v := .bool false) rfl
        have f6 := hW.r6.frozen 0
        have c10 := hW.r10.cell (i := 0) (v := .slice none 0 0) rfl
        have c11 := hW.r11.cell (i := 0) (v := .int .i64 (pre.length : Int)) rfl
        have R6 := Lib.hid (hW.r6.set 0 (.bool true))
        have ho1 := HB8.out.o1
        have ho2 := HB8.out.o2
        have ho9 := HB8.out.o9
        have ho6 := HB8.out.o6
        have HD3 : Hid ((W.setCell ⟨w.heap.size + 2, 0, none⟩ (.bool true)).heap[w8.heap.size]? = some (.deferred (some []))) := Lib.hid (by
          rw [heap_setCell_other _ _ _ _ (by simp; omega)]; exact hD)
        have HB6 := Lib.hid (below_setCell hW.below (show w.heap.size ≤ w.heap.size + 2 by omega) 0 (.bool true))
        clear hD hW
        have te : ((pre.length : Int) == x2) = true := by simpa using hx
        clear hx
        gi_wp2
        refine ⟨by simp, .inl ⟨_, _, rfl, run_takeDeferred HD3.out, ?_⟩⟩
        refine ⟨_, results_cell_one rfl _ _ _ _ _ (by rfl) (RowAt.cell (t := 4) (c := #[.bool true]) (by unfold RowAt; rw [World.putObj_heap_other (by omega)]; exact R6.out) (i := 0) (v := .bool true) rfl) Tryz.underlying4 rfl, rfl, HB6.out.trans (below_putObj _ _ (by omega))⟩
    · have pm := hFd.pmx
      have tp : decide (p > 0) = true := decide_eq_true (by omega)
      obtain ⟨q, rfl, hq⟩ : ∃ q, v = .pointer q ∧ q ≠ none := by
        obtain ⟨b, _, _, _, _, _, e, _⟩ := hFd
        exact ⟨_, e, by simp⟩
      have HNn := Lib.hid hq
      have HFd := Lib.hid hFd
      have HRc := Lib.hid (fun W => r11check_any p x1 1024 W p3 pm h01 h11)
      clear HM hFd hq
      by_cases hchk : chk p x1 1024 = 0
      case neg =>
        obtain ⟨c, hcc⟩ : ∃ c, c = chk p x1 1024 := ⟨_, rfl⟩
        rw [← hcc] at HRc hchk
        have hc := hchk
        have tc : (c == 0) = false := by simpa using hchk
        have hw3 := R3.out.2.2.1.lt
        have HPa := Lib.hid (fun W => planall_any q x1 W)
        gi_wp2_with (gi_at_call 21; refine (callsIn_wide.2 (HRc.out _)).mono ?_; rintro r w4 ⟨rfl, rfl⟩)
        refine (callsIn_wide.2 (HPa.out _)).mono ?_
        rintro r w8 ⟨rfl, hB8, hs8, c0, c1⟩
        obtain ⟨X10, hX⟩ : ∃ X, X = w3.heap.size := ⟨_, rfl⟩
        have HI0 : Hid (AlI w x2 X10 (X10 + 1) [] none 0 0 w3.heap.size (.pointer q) p g x1 (X10 + 2) (X10 + 3) 0 w8) := Lib.hid (by
          subst hX
          have h0 := lay2 w3 42 3 #[.slice none 0 0] #[.int .i64 0]
          have hb := h0.2.2.trans (hB8.mono h0.2.2.size)
          exact ⟨R3.out.2.2.2.trans (hb.mono R3.out.2.2.2.size), R3.out.2.1.keep hb, R3.out.2.2.1.keep hb, h0.1.keep hB8, h0.2.1.keep hB8, fun j hj => absurd hj (Nat.not_lt_zero j), .inr (HFd.out.below hb), by simpa [Nat.add_assoc] using c0, by simpa [Nat.add_assoc] using c1⟩)
        have HB8 : Hid (AlB w X10 (X10 + 1) [] 0 w3.heap.size (X10 + 2) (X10 + 3) w8.heap.size) := Lib.hid (by
          subst hX
          simp only [World.size_alloc] at hs8
          exact ⟨hw3, by omega, fun h => absurd h (Nat.lt_irrefl 0), by omega, by omega, by omega, by omega, by omega⟩)
        simp only [World.size_alloc]
        rw [← hX]
        obtain ⟨bf, hbf⟩ : ∃ b, b = X10 + 2 := ⟨_, rfl⟩
        obtain ⟨bn, hbn⟩ : ∃ b, b = X10 + 3 := ⟨_, rfl⟩
        obtain ⟨X11, hX11⟩ : ∃ b, b = X10 + 1 := ⟨_, rfl⟩
        rw [show X10 + 1 + 1 + 1 = bn by omega, show X10 + 1 + 1 = bf by omega, ← hX11]
        rw [← hbf, ← hbn, ← hX11] at HI0 HB8
        clear hB8 hs8 c0 c1 hX hbf hbn hX11 R3
        gi_wp2_with fail
        refine range_gives_k (gf := 61) (lb := #[.pointer (some ⟨bf, 0, none⟩), .pointer (some ⟨bn, 0, none⟩)]) rfl e55
          (fun W0' _ _ => all_gives_no q x1 bf bn c hc (fun W => CapAny (.pointer q) x1 bf bn W ∧ Fd W w3.heap.size (.pointer q) p g) (fun W h => h.1) (fun W h => by rw [hcc]; exact pcheck_fd h.2 x1 h01 h11) W0') (fun _ => rfl)
          (fun s W => AlI w x2 X10 X11 [] none 0 0 w3.heap.size (.pointer q) p g x1 bf bn s.length W) (fun c s W => c = .exit 0 ∧ AlI w x2 X10 X11 [] none 0 0 w3.heap.size (.pointer q) p g x1 bf bn s.length W ∧ (s.length : Int) = x2) ?hI ?hIx ?hC ?h0 ?hround ?hdone ?hstop
        case hI => exact fun s W W' h hb => h.low HB8.out hb
        case hIx => exact fun c s W W' h hb => ⟨h.1, h.2.1.low HB8.out hb, h.2.2⟩
        case hC => exact fun s W h => ⟨⟨h.cf, h.cn⟩, h.fd.resolve_left (fun e => by cases e; exact HNn.out rfl)⟩
        case h0 => exact HI0.out
        case hround => exact fun m pre x W KK hsz hW hpre => absurd hpre (by simp)
        case hdone =>
          rintro W hsz hW hD
          have c5 := hW.r5.cell (i := 0) (v := .int .i64 x2) rfl
          have c6 := hW.r6.cell (i := 0) (v := .bool false) rfl
          have f6 := hW.r6.frozen 0
          have c10 := hW.r10.cell (i := 0) (v := .slice none 0 0) rfl
          have c11 := hW.r11.cell (i := 0) (v := .int .i64 (0 : Int)) rfl
          have R6 := Lib.hid (hW.r6.set 0 (.bool true))
          have ho1 := HB8.out.o1
          have ho2 := HB8.out.o2
          have ho9 := HB8.out.o9
          have ho6 := HB8.out.o6
          have HD3 : Hid ((W.setCell ⟨w.heap.size + 2, 0, none⟩ (.bool true)).heap[w8.heap.size]? = some (.deferred (some []))) := Lib.hid (by
            rw [heap_setCell_other _ _ _ _ (by simp; omega)]; exact hD)
          have HB6 := Lib.hid (below_setCell hW.below (show w.heap.size ≤ w.heap.size + 2 by omega) 0 (.bool true))
          clear hD hW
          by_cases he : (0 : Int) = x2
          · have te : ((0 : Int) == x2) = true := by simpa using he
            clear he
            gi_wp2
            refine ⟨by simp, .inl ⟨_, _, rfl, run_takeDeferred HD3.out, ?_⟩⟩
            refine ⟨_, results_cell_one rfl _ _ _ _ _ (by rfl) (RowAt.cell (t := 4) (c := #[.bool true]) (by unfold RowAt; rw [World.putObj_heap_other (by omega)]; exact R6.out) (i := 0) (v := .bool true) rfl) Tryz.underlying4 rfl, rfl, HB6.out.trans (below_putObj _ _ (by omega))⟩
          · have te : ((0 : Int) == x2) = false := by simpa using he
            clear he
            gi_wp2
            refine ⟨by simp, .inl ⟨_, _, rfl, run_takeDeferred HD3.out, ?_⟩⟩
            refine ⟨_, results_cell_one rfl _ _ _ _ _ (by rfl) (RowAt.cell (t := 4) (c := #[.bool true]) (by unfold RowAt; rw [World.putObj_heap_other (by omega)]; exact R6.out) (i := 0) (v := .bool true) rfl) Tryz.underlying4 rfl, rfl, HB6.out.trans (below_putObj _ _ (by omega))⟩
        case hstop =>
          rintro c pre W hsz hpre ⟨rfl, hW, hx⟩ hD
          have c5 := hW.r5.cell (i := 0) (v := .int .i64 x2) rfl
          have c6 := hW.r6.cell (i := 0) (v := .bool false) rfl
          have f6 := hW.r6.frozen 0
          have c10 := hW.r10.cell (i := 0) (v := .slice none 0 0) rfl
          have c11 := hW.r11.cell (i := 0) (v := .int .i64 (pre.length : Int)) rfl
          have R6 := Lib.hid (hW.r6.set 0 (.bool true))
          have ho1 := HB8.out.o1
          have ho2 := HB8.out.o2
          have ho9 := HB8.out.o9
          have ho6 := HB8.out.o6
          have HD3 : Hid ((W.setCell ⟨w.heap.size + 2, 0, none⟩ (.bool true)).heap[w8.heap.size]? = some (.deferred (some []))) := Lib.hid (by
            rw [heap_setCell_other _ _ _ _ (by simp; omega)]; exact hD)
          have HB6 := Lib.hid (below_setCell hW.below (show w.heap.size ≤ w.heap.size + 2 by omega) 0 (.bool true))
          clear hD hW
          have te : ((pre.length : Int) == x2) = true := by simpa using hx
          clear hx
          gi_wp2
          refine ⟨by simp, .inl ⟨_, _, rfl, run_takeDeferred HD3.out, ?_⟩⟩
          refine ⟨_, results_cell_one rfl _ _ _ _ _ (by rfl) (RowAt.cell (t := 4) (c := #[.bool true]) (by unfold RowAt; rw [World.putObj_heap_other (by omega)]; exact R6.out) (i := 0) (v := .bool true) rfl) Tryz.underlying4 rfl, rfl, HB6.out.trans (below_putObj _ _ (by omega))⟩
      case pos =>
        rw [hchk] at HRc
        have hn := chk_rng hchk
        have HAl := Lib.hid (fun W => r18all_any p x1 p3 pm hn W)
        have HCan : Hid (∀ x ∈ allL p x1, CanP x) := Lib.hid (fun x hx => allL_can hn hchk hx)
        have HGv : Hid (∀ bf bn W0, Gives Tryz.prog 61 #[.pointer (some ⟨bf, 0, none⟩), .pointer (some ⟨bn, 0, none⟩)] encP (allL p x1) (CapAll (.pointer q) p g x1 bf bn) W0) := Lib.hid (fun bf bn W0 => all_gives q p g x1 bf bn hchk W0)
        obtain ⟨L, hL⟩ : ∃ L, L = allL p x1 := ⟨_, rfl⟩
        rw [← hL] at HAl HCan HGv
        have hLl : L.length ≤ 20000 := by
          rw [hL]
          have := upA_len (p := p) hn 7 (by omega)
          unfold allL
          omega
        have hw3 := R3.out.2.2.1.lt
        have HPa := Lib.hid (fun W => planall_any q x1 W)
        clear hL hn
        gi_wp2_with (gi_at_call 21; refine (callsIn_wide.2 (HRc.out _)).mono ?_; rintro r w4 ⟨rfl, rfl⟩)
        refine (callsIn_wide.2 (HAl.out _)).mono ?_
        rintro r w5 ⟨V, rfl, hown, hB5⟩
        obtain ⟨A, cA, G, rfl, hG, hA, hrng⟩ := own_plans hown
        have hR10 := (RowAt.new w3 42 #[.slice none 0 0]).keep hB5
        have c10 := hR10.cell (i := 0) (v := .slice none 0 0) rfl
        have f10 := hR10.frozen 0
        have hs5 := hB5.size
        simp only [World.size_alloc] at hG hs5
        have HAa := Lib.hid hA
        have hGl : 0 < L.length → G < w5.heap.size := fun h => World.block_lt_of_cell? _ _ (hrng 0 h 0 _ rfl)
        have hb36 : Below w3.heap.size w3 (w5.setCell ⟨w3.heap.size, 0, none⟩ (.slice A L.length cA)) := below_setCell (((Below.refl _ w3).alloc (Nat.le_refl _) (.cells #[.slice none 0 0] 42)).trans (hB5.mono (by simp))) (Nat.le_refl _) 0 _
        have HQ : Hid (Below w3.heap.size w3 ((w5.setCell ⟨w3.heap.size, 0, none⟩ (.slice A L.length cA)).alloc (.cells #[.int .i64 0] 3)) ∧ RowAt ((w5.setCell ⟨w3.heap.size, 0, none⟩ (.slice A L.length cA)).alloc (.cells #[.int .i64 0] 3)) w3.heap.size 42 #[.slice A L.length cA] ∧ RowAt ((w5.setCell ⟨w3.heap.size, 0, none⟩ (.slice A L.length cA)).alloc (.cells #[.int .i64 0] 3)) w5.heap.size 3 #[.int .i64 0] ∧
            (∀ j, j < L.length → ((w5.setCell ⟨w3.heap.size, 0, none⟩ (.slice A L.length cA)).alloc (.cells #[.int .i64 0] 3)).rangeAt G (j * 3) [.int .i64 (L.getD j (0, 0, 0)).1, .int .i64 (L.getD j (0, 0, 0)).2.1, .int .i64 (L.getD j (0, 0, 0)).2.2])) := Lib.hid
          ⟨hb36.alloc hb36.size _, (hR10.set 0 (.slice A L.length cA)).alloc _, by
            have h := RowAt.new (w5.setCell ⟨w3.heap.size, 0, none⟩ (.slice A L.length cA)) 3 #[.int .i64 0]
            rw [World.size_setCell] at h
            exact h, fun j hj i u hu => by
            have h1 := hrng j hj i u hu
            have h2 : (w5.setCell ⟨w3.heap.size, 0, none⟩ (.slice A L.length cA)).cell? ⟨G, j * 3 + i, none⟩ = some u := cell_set_other h1 (by simp; omega)
            exact cell_keep ((Below.refl _ _).alloc (Nat.le_refl _) _) (World.block_lt_of_cell? _ _ h2) h2⟩
        clear hown hA hrng hR10 hb36
        gi_wp2_with fail
        refine (callsIn_wide.2 (HPa.out _)).mono ?_
        rintro r w8 ⟨rfl, hB8, hs8, c0, c1⟩
        simp only [World.size_alloc, World.size_setCell] at hs8 c0 c1 ⊢
        obtain ⟨X10, hX⟩ : ∃ X, X = w3.heap.size := ⟨_, rfl⟩
        obtain ⟨X11, hX11⟩ : ∃ X, X = w5.heap.size := ⟨_, rfl⟩
        obtain ⟨bf, hbf⟩ : ∃ b, b = X11 + 1 := ⟨_, rfl⟩
        obtain ⟨bn, hbn⟩ : ∃ b, b = X11 + 2 := ⟨_, rfl⟩
        obtain ⟨B0, hB0⟩ : ∃ b, b = w3.heap.size := ⟨_, rfl⟩
        have HI0 : Hid (AlI w x2 X10 X11 L A cA G B0 (.pointer q) p g x1 bf bn 0 w8) := Lib.hid (by
          subst hX; subst hX11; subst hbf; subst hbn; subst hB0
          have hb := HQ.out.1.trans (hB8.mono HQ.out.1.size)
          exact ⟨R3.out.2.2.2.trans (hb.mono R3.out.2.2.2.size), R3.out.2.1.keep hb, R3.out.2.2.1.keep hb, HQ.out.2.1.keep hB8, HQ.out.2.2.1.keep hB8, fun j hj i u hu => cell_keep hB8 (World.block_lt_of_cell? _ _ (HQ.out.2.2.2 j hj i u hu)) (HQ.out.2.2.2 j hj i u hu), .inr (HFd.out.below hb), c0, c1⟩)
        have HB8 : Hid (AlB w X10 X11 L G B0 bf bn w8.heap.size) := Lib.hid (by
          subst hX; subst hX11; subst hbf; subst hbn; subst hB0
          exact ⟨hw3, by omega, fun h => ⟨by omega, hGl h, by omega⟩, by omega, by omega, by omega, by omega, by omega⟩)
        rw [← hX, ← hX11]
        rw [show X11 + 1 + 1 = bn by omega, show X11 + 1 = bf by omega]
        have HB0 := Lib.hid hB0
        clear hB8 hs8 c0 c1 hX hbf hbn hX11 R3 c10 f10 hs5 hGl hG hB5 HQ hB0
        gi_wp2_with fail
        refine range_gives_k (gf := 61) (lb := #[.pointer (some ⟨bf, 0, none⟩), .pointer (some ⟨bn, 0, none⟩)]) rfl e55
          (fun W0' _ _ => HGv.out bf bn W0') (fun _ => rfl)
          (fun s W => AlI w x2 X10 X11 L A cA G B0 (.pointer q) p g x1 bf bn s.length W) (fun c s W => c = .exit 0 ∧ AlI w x2 X10 X11 L A cA G B0 (.pointer q) p g x1 bf bn s.length W ∧ (s.length : Int) = x2) ?hI ?hIx ?hC ?h0 ?hround ?hdone ?hstop
        case hI => exact fun s W W' h hb => h.low HB8.out hb
        case hIx => exact fun c s W W' h hb => ⟨h.1, h.2.1.low HB8.out hb, h.2.2⟩
        case hC => exact fun s W h => ⟨(h.fd.resolve_left (fun e => by cases e; exact HNn.out rfl)).mono (by have hh := World.block_lt_of_cell? _ _ h.cf; simp at hh; have := HB8.out.o8; have := HB8.out.o6; omega), h.cf, h.cn⟩
        case h0 => exact HI0.out
        case hround =>
          rintro m pre ⟨a0, a1, a2⟩ W KK hsz hW hpre hKK
          have HW := Lib.hid hW
          have HKK := Lib.hid hKK
          have hkL : pre.length < L.length := by
            have := hpre.length_le
            simp at this; omega
          have hgx : L.getD pre.length (0, 0, 0) = (a0, a1, a2) := by
            obtain ⟨t, rfl⟩ := hpre
            simp [List.getD_eq_getElem?_getD]
          have hcx : CanP (a0, a1, a2) := HCan.out _ (hpre.subset (List.mem_append_right _ (List.mem_singleton.2 rfl)))
          have HIs := Lib.hid (fun W => is18_any a0 a1 a2 a0 a1 a2 (by have := canB_K hcx; simp at this; omega) (by have := canB_K hcx; simp at this; omega) W)
          have hbt : (a0 == a0 && a1 == a1 && a2 == a2) = true := by simp
          rw [hbt] at HIs
          obtain rfl := HAa.out (by omega)
          have HRg := Lib.hid (fun W (h : AlI w x2 X10 X11 L (some ⟨G, 0, none⟩) cA G B0 (.pointer q) p g x1 bf bn pre.length W) => h.rng pre.length hkL)
          rw [hgx] at HRg
          have hLen : (pre ++ [(a0, a1, a2)]).length = pre.length + 1 := by simp
          clear hW hKK hpre hgx hcx hbt
          simp only [encP]
          gi_wp2
          refine HKK.out _ _ (HW.out.low HB8.out ((Below.refl _ W).alloc (by omega) _)) (Above.of_below ((Below.refl _ W).alloc (Nat.le_refl _) _)) ?_
          intro W2 E hE hEo hEp hb hs hne
          have hs' : W2.heap.size = W.heap.size + 1 := by rw [hs]; simp
          have hr2 : RowAt W2 W.heap.size 36 #[.int .i64 a0, .int .i64 a1, .int .i64 a2] := by
            unfold RowAt
            rw [hne W.heap.size (by omega)]
            exact RowAt.new W _ _
          have hI2 := (HW.out.low HB8.out ((Below.refl _ W).alloc (by omega) (.cells #[.int .i64 a0, .int .i64 a1, .int .i64 a2] 36))).low HB8.out hb
          have HEn : Hid (∀ a W', AlI w x2 X10 X11 L (some ⟨G, 0, none⟩) cA G B0 (.pointer q) p g x1 bf bn (pre.length + 1) W' → Above w8.heap.size W2 W' → E .normal a W') := Lib.hid (fun a W' h1 h2 => hE .normal a W' ⟨by have h := h1; rw [← hLen] at h; exact h, h2⟩)
          have HEx : Hid (∀ a W', AlI w x2 X10 X11 L (some ⟨G, 0, none⟩) cA G B0 (.pointer q) p g x1 bf bn (pre.length + 1) W' → ((pre.length : Int) + 1 = x2) → Above w8.heap.size W2 W' → E (.exit 0) a W') := Lib.hid (fun a W' h1 h2 h3 => hE (.exit 0) a W' ⟨⟨rfl, by have h := h1; rw [← hLen] at h; exact h, by rw [hLen]; omega⟩, h3⟩)
          obtain ⟨X, hX⟩ : ∃ X, X = W.heap.size := ⟨_, rfl⟩
          rw [← hX] at hr2 ⊢
          obtain ⟨k, hk⟩ : ∃ k, k = pre.length := ⟨_, rfl⟩
          rw [← hk] at HEn HEx HRg hI2 hkL
          have KP : Hid (∀ W W', (AlI w x2 X10 X11 L (some ⟨G, 0, none⟩) cA G B0 (.pointer q) p g x1 bf bn k W ∧ RowAt W X 36 #[.int .i64 a0, .int .i64 a1, .int .i64 a2] ∧ Above w8.heap.size W2 W ∧ w8.heap.size ≤ W.heap.size) → Below W.heap.size W W' → (AlI w x2 X10 X11 L (some ⟨G, 0, none⟩) cA G B0 (.pointer q) p g x1 bf bn k W' ∧ RowAt W' X 36 #[.int .i64 a0, .int .i64 a1, .int .i64 a2] ∧ Above w8.heap.size W2 W' ∧ w8.heap.size ≤ W'.heap.size)) := Lib.hid (fun W W' h hB => ⟨h.1.low HB8.out (hB.mono h.2.2.2), h.2.1.keep hB, h.2.2.1.trans (Above.of_below hB), Nat.le_trans h.2.2.2 hB.size⟩)
          have z0 : Hid (AlI w x2 X10 X11 L (some ⟨G, 0, none⟩) cA G B0 (.pointer q) p g x1 bf bn k (W2.drewN 1) ∧ RowAt (W2.drewN 1) X 36 #[.int .i64 a0, .int .i64 a1, .int .i64 a2] ∧ Above w8.heap.size W2 (W2.drewN 1) ∧ w8.heap.size ≤ (W2.drewN 1).heap.size) := Lib.hid (KP.out W2 _ ⟨hI2, hr2, Above.refl _ _, by omega⟩ (below_drewN (Below.refl _ _) 1))
          have HSZ : Hid (∀ wz, (AlI w x2 X10 X11 L (some ⟨G, 0, none⟩) cA G B0 (.pointer q) p g x1 bf bn k wz ∧ RowAt wz X 36 #[.int .i64 a0, .int .i64 a1, .int .i64 a2] ∧ Above w8.heap.size W2 wz ∧ w8.heap.size ≤ wz.heap.size) → (wz.cell? ⟨X11, 0, none⟩ = some (.int .i64 (k : Int)) ∧ wz.cell? ⟨X10, 0, none⟩ = some (.slice (some ⟨G, 0, none⟩) L.length cA) ∧ RowAt wz X 36 #[.int .i64 a0, .int .i64 a1, .int .i64 a2] ∧ wz.rangeAt G (k * 3) [.int .i64 a0, .int .i64 a1, .int .i64 a2])) := Lib.hid (fun wz hz => ⟨hz.1.r11.cell rfl, hz.1.r10.cell rfl, hz.2.1, HRg.out wz hz.1⟩)
          have i1 : (0 : Int) ≤ (k : Int) := by omega
          have i2 : (k : Int) < (L.length : Int) := by omega
          have i3 : decide ((k : Int) ≥ (L.length : Int)) = false := decide_eq_false (by omega)
          have i3b : decide ((L.length : Int) ≤ (k : Int)) = false := decide_eq_false (by omega)
          have i3c : decide (L.length ≤ k) = false := decide_eq_false (by omega)
          have i4 : IntKind.i64.wrap ((k : Int) + 1) = (k : Int) + 1 := IntWalk.i64_in _ (by omega)
          clear hI2 hr2 hb hs hne hE HW HKK hs' hX hk hLen
          gi_wp2
          refine region_round (S := fun wz => wz.cell? ⟨X11, 0, none⟩ = some (.int .i64 (k : Int)) ∧ wz.cell? ⟨X10, 0, none⟩ = some (.slice (some ⟨G, 0, none⟩) L.length cA) ∧ RowAt wz X 36 #[.int .i64 a0, .int .i64 a1, .int .i64 a2] ∧ wz.rangeAt G (k * 3) [.int .i64 a0, .int .i64 a1, .int .i64 a2]) (by kernel_rfl) (by kernel_rfl) (fun ⟨_, _, h⟩ => hEo ⟨_, _, h⟩) (HSZ.out _ z0.out) (fun hHeld => ?_)
          clear hHeld
          refine wpAnyH_take (i := 0) (v := ?_) rfl (by kernel_rfl) (by kernel_rfl) (by kernel_rfl) (fun _ _ _ h => (hEp _ _ _ h).elim) (Or.inl ⟨by rfl, ?_⟩) (HSZ.out _ z0.out) ?_
          rotate_left
          · intro w hSw; (try dsimp only at hSw); go_simp; try with_reducible rfl
          try simp only [Act.put, List.getElem_toArray, List.getElem_cons_zero, List.getElem_cons_succ, List.setIfInBounds_toArray, List.set_cons_zero, List.set_cons_succ]
          refine wpAnyH_take (i := 1) (v := ?_) rfl (by kernel_rfl) (by kernel_rfl) (by kernel_rfl) (fun _ _ _ h => (hEp _ _ _ h).elim) (Or.inl ⟨by rfl, ?_⟩) (HSZ.out _ z0.out) ?_
          rotate_left
          · intro w hSw; (try dsimp only at hSw); go_simp; try with_reducible rfl
          try simp only [Act.put, List.getElem_toArray, List.getElem_cons_zero, List.getElem_cons_succ, List.setIfInBounds_toArray, List.set_cons_zero, List.set_cons_succ]
          refine wpAnyH_take (i := 2) (v := ?_) rfl (by kernel_rfl) (by kernel_rfl) (by kernel_rfl) (fun _ _ _ h => (hEp _ _ _ h).elim) (Or.inl ⟨by rfl, ?_⟩) (HSZ.out _ z0.out) ?_
          rotate_left
          · intro w hSw; (try dsimp only at hSw); go_simp; try with_reducible rfl
          try simp only [Act.put, List.getElem_toArray, List.getElem_cons_zero, List.getElem_cons_succ, List.setIfInBounds_toArray, List.set_cons_zero, List.set_cons_succ]
          refine wpAnyH_take (i := 3) (v := ?_) rfl (by kernel_rfl) (by kernel_rfl) (by kernel_rfl) (fun _ _ _ h => (hEp _ _ _ h).elim) (Or.inl ⟨by rfl, ?_⟩) (HSZ.out _ z0.out) ?_
          rotate_left
          · intro w hSw; (try dsimp only at hSw); go_simp; try with_reducible rfl
          try simp only [Act.put, List.getElem_toArray, List.getElem_cons_zero, List.getElem_cons_succ, List.setIfInBounds_toArray, List.set_cons_zero, List.set_cons_succ]
          refine wpAnyH_take (i := 4) (v := ?_) rfl (by kernel_rfl) (by kernel_rfl) (by kernel_rfl) (fun _ _ _ h => (hEp _ _ _ h).elim) (Or.inl ⟨by rfl, ?_⟩) (HSZ.out _ z0.out) ?_
          rotate_left
          · intro w hSw; (try dsimp only at hSw); go_simp; try with_reducible rfl
          try simp only [Act.put, List.getElem_toArray, List.getElem_cons_zero, List.getElem_cons_succ, List.setIfInBounds_toArray, List.set_cons_zero, List.set_cons_succ]
          refine wpAnyH_take (i := 5) rfl (by kernel_rfl) (by kernel_rfl) (by kernel_rfl) (fun _ _ _ h => (hEp _ _ _ h).elim) (yieldsIf_load_row (by rfl) _ _ rfl _ rfl _ _ _ (fun wz h => h.2.2.1) Tryz.underlying36 rfl (by exact size_plan)) (HSZ.out _ z0.out) ?_
          try simp only [Act.put, List.getElem_toArray, List.getElem_cons_zero, List.getElem_cons_succ, List.setIfInBounds_toArray, List.set_cons_zero, List.set_cons_succ]
          refine wpAnyH_take (i := 6) (v := ?_) rfl (by kernel_rfl) (by kernel_rfl) (by kernel_rfl) (fun _ _ _ h => (hEp _ _ _ h).elim) (Or.inl ⟨by rfl, ?_⟩) (HSZ.out _ z0.out) ?_
          rotate_left
          · intro w hSw; (try dsimp only at hSw); go_simp; try with_reducible rfl
          try simp only [Act.put, List.getElem_toArray, List.getElem_cons_zero, List.getElem_cons_succ, List.setIfInBounds_toArray, List.set_cons_zero, List.set_cons_succ]
          refine wpAnyH_take (i := 7) (v := ?_) rfl (by kernel_rfl) (by kernel_rfl) (by kernel_rfl) (fun _ _ _ h => (hEp _ _ _ h).elim) (Or.inl ⟨by rfl, ?_⟩) (HSZ.out _ z0.out) ?_
          rotate_left
          · intro w hSw; (try dsimp only at hSw); go_simp; try with_reducible rfl
          try simp only [Act.put, List.getElem_toArray, List.getElem_cons_zero, List.getElem_cons_succ, List.setIfInBounds_toArray, List.set_cons_zero, List.set_cons_succ]
          refine wpAnyH_take (i := 8) (v := ?_) rfl (by kernel_rfl) (by kernel_rfl) (by kernel_rfl) (fun _ _ _ h => (hEp _ _ _ h).elim) (Or.inl ⟨by rfl, ?_⟩) (HSZ.out _ z0.out) ?_
          rotate_left
          · intro w hSw; (try dsimp only at hSw); go_simp; try with_reducible rfl
          try simp only [Act.put, List.getElem_toArray, List.getElem_cons_zero, List.getElem_cons_succ, List.setIfInBounds_toArray, List.set_cons_zero, List.set_cons_succ]
          refine wpAnyH_take (i := 9) rfl (by kernel_rfl) (by kernel_rfl) (by kernel_rfl) (fun _ _ _ h => (hEp _ _ _ h).elim) (yieldsIf_load_mid (by rfl) _ _ rfl _ _ rfl _ _ (fun wz h => h.2.2.2) Tryz.underlying27 rfl (by exact size_rplan)) (HSZ.out _ z0.out) ?_
          try simp only [Act.put, List.getElem_toArray, List.getElem_cons_zero, List.getElem_cons_succ, List.setIfInBounds_toArray, List.set_cons_zero, List.set_cons_succ]
          refine wpAnyH_ready (rs := [10]) (by kernel_rfl) (by simp) ?_
          refine AllReadyH.cons rfl (fun K hK => ?_) AllReadyH.nil
          try simp only [List.getElem_toArray, List.getElem_cons_zero, List.getElem_cons_succ]
          rw [if_pos (by rfl)]
          go_wp2_with (go_at_call 24; refine (HIs.out _).mono ?_; rintro e w9 ⟨rfl, hY⟩)
          have z9 := Lib.hid (KP.out _ _ z0.out hY)
          clear hY
          refine hK.out _ _ ((HSZ.out _ z9.out)) (fun _ => ?_)
          clear hK K
          try simp only [Act.put, List.getElem_toArray, List.getElem_cons_zero, List.getElem_cons_succ, List.setIfInBounds_toArray, List.set_cons_zero, List.set_cons_succ]
          refine wpAnyH_take (i := 11) (v := ?_) rfl (by kernel_rfl) (by kernel_rfl) (by kernel_rfl) (fun _ _ _ h => (hEp _ _ _ h).elim) (Or.inl ⟨by rfl, ?_⟩) (HSZ.out _ z9.out) ?_
          rotate_left
          · intro w hSw; (try dsimp only at hSw); go_simp; try with_reducible rfl
          try simp only [Act.put, List.getElem_toArray, List.getElem_cons_zero, List.getElem_cons_succ, List.setIfInBounds_toArray, List.set_cons_zero, List.set_cons_succ]
          refine wpAnyH_take (i := 12) (v := ?_) rfl (by kernel_rfl) (by kernel_rfl) (by kernel_rfl) (fun _ _ _ h => (hEp _ _ _ h).elim) (Or.inl ⟨by rfl, ?_⟩) (HSZ.out _ z9.out) ?_
          rotate_left
          · intro w hSw; (try dsimp only at hSw); go_simp; try with_reducible rfl
          try simp only [Act.put, List.getElem_toArray, List.getElem_cons_zero, List.getElem_cons_succ, List.setIfInBounds_toArray, List.set_cons_zero, List.set_cons_succ]
          refine wpAnyH_done (by kernel_rfl) ?_ _
          have c11 := z9.out.1.r11.cell (i := 0) (v := .int .i64 (k : Int)) rfl
          have f11 := z9.out.1.r11.frozen 0
          have hI3 := z9.out.1.set HB8.out
          have c11b := hI3.r11.cell (i := 0) (v := .int .i64 ((k + 1 : Nat) : Int)) rfl
          have c5b := hI3.r5.cell (i := 0) (v := .int .i64 x2) rfl
          rw [Int.natCast_add, Int.natCast_one] at c11b
          have hA3 := z9.out.2.2.1.trans (Above.setCell (a := ⟨X11, 0, none⟩) _ (.int .i64 ((k : Int) + 1)) (by have := HB8.out.o6; have := HB8.out.o9; simp; omega))
          by_cases hsx : (k : Int) + 1 = x2
          · have te : ((k : Int) + 1 == x2) = true := by simpa using hsx
            have HF := Lib.hid (fun a => HEx.out a _ hI3 hsx hA3)
            clear hI3 hA3 hsx
            gi_wp2
            exact HF.out _
          · have te : ((k : Int) + 1 == x2) = false := by simpa using hsx
            have HF := Lib.hid (fun a => HEn.out a _ hI3 hA3)
            clear hI3 hA3 hsx
            gi_wp2
            exact HF.out _
        case hdone =>
          rintro W hsz hW hD
          have c5 := hW.r5.cell (i := 0) (v := .int .i64 x2) rfl
          have c6 := hW.r6.cell (i := 0) (v := .bool false) rfl
          have f6 := hW.r6.frozen 0
          have c10 := hW.r10.cell (i := 0) (v := .slice A L.length cA) rfl
          have c11 := hW.r11.cell (i := 0) (v := .int .i64 (L.length : Int)) rfl
          have R6 := Lib.hid (hW.r6.set 0 (.bool true))
          have ho1 := HB8.out.o1
          have ho2 := HB8.out.o2
          have ho9 := HB8.out.o9
          have ho6 := HB8.out.o6
          have HD3 : Hid ((W.setCell ⟨w.heap.size + 2, 0, none⟩ (.bool true)).heap[w8.heap.size]? = some (.deferred (some []))) := Lib.hid (by
            rw [heap_setCell_other _ _ _ _ (by simp; omega)]; exact hD)
          have HB6 := Lib.hid (below_setCell hW.below (show w.heap.size ≤ w.heap.size + 2 by omega) 0 (.bool true))
          clear hD hW
          by_cases he : (L.length : Int) = x2
          · have te : ((L.length : Int) == x2) = true := by simpa using he
            clear he
            gi_wp2
            refine ⟨by simp, .inl ⟨_, _, rfl, run_takeDeferred HD3.out, ?_⟩⟩
            refine ⟨_, results_cell_one rfl _ _ _ _ _ (by rfl) (RowAt.cell (t := 4) (c := #[.bool true]) (by unfold RowAt; rw [World.putObj_heap_other (by omega)]; exact R6.out) (i := 0) (v := .bool true) rfl) Tryz.underlying4 rfl, rfl, HB6.out.trans (below_putObj _ _ (by omega))⟩
          · have te : ((L.length : Int) == x2) = false := by simpa using he
            clear he
            gi_wp2
            refine ⟨by simp, .inl ⟨_, _, rfl, run_takeDeferred HD3.out, ?_⟩⟩
            refine ⟨_, results_cell_one rfl _ _ _ _ _ (by rfl) (RowAt.cell (t := 4) (c := #[.bool true]) (by unfold RowAt; rw [World.putObj_heap_other (by omega)]; exact R6.out) (i := 0) (v := .bool true) rfl) Tryz.underlying4 rfl, rfl, HB6.out.trans (below_putObj _ _ (by omega))⟩
        case hstop =>
          rintro c pre W hsz hpre ⟨rfl, hW, hx⟩ hD
          have c5 := hW.r5.cell (i := 0) (v := .int .i64 x2) rfl
          have c6 := hW.r6.cell (i := 0) (v := .bool false) rfl
          have f6 := hW.r6.frozen 0
          have c10 := hW.r10.cell (i := 0) (v := .slice A L.length cA) rfl
          have c11 := hW.r11.cell (i := 0) (v := .int .i64 (pre.length : Int)) rfl
          have R6 := Lib.hid (hW.r6.set 0 (.bool true))
          have ho1 := HB8.out.o1
          have ho2 := HB8.out.o2
          have ho9 := HB8.out.o9
          have ho6 := HB8.out.o6
          have HD3 : Hid ((W.setCell ⟨w.heap.size + 2, 0, none⟩ (.bool true)).heap[w8.heap.size]? = some (.deferred (some []))) := Lib.hid (by
            rw [heap_setCell_other _ _ _ _ (by simp; omega)]; exact hD)
          have HB6 := Lib.hid (below_setCell hW.below (show w.heap.size ≤ w.heap.size + 2 by omega) 0 (.bool true))
          clear hD hW
          have te : ((pre.length : Int) == x2) = true := by simpa using hx
          clear hx
          gi_wp2
          refine ⟨by simp, .inl ⟨_, _, rfl, run_takeDeferred HD3.out, ?_⟩⟩
          refine ⟨_, results_cell_one rfl _ _ _ _ _ (by rfl) (RowAt.cell (t := 4) (c := #[.bool true]) (by unfold RowAt; rw [World.putObj_heap_other (by omega)]; exact R6.out) (i := 0) (v := .bool true) rfl) Tryz.underlying4 rfl, rfl, HB6.out.trans (below_putObj _ _ (by omega))⟩
end Go.Proofs.YtmalmijdjhkklaaGreat
