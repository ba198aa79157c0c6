/- Law 18: the document's list of all plans, and which one is chosen. Plain. -/
import Derived.Test.YtmalmijdjhkklaaGreatWPlPPlQOf18
set_option linter.unusedVariables false
set_option linter.unusedSimpArgs false
set_option linter.unusedSectionVars false
set_option linter.unusedVariables false
namespace Go.Proofs.YtmalmijdjhkklaaGreat
noncomputable def fitL (p n k : Int) (a : Nat) : List PlT := ((List.range a).filter fun (i : Nat) => decide (fitI p k n (i : Int) = 0)).map fun (i : Nat) => (k, n, (i : Int))
theorem fitL_zero (p n k : Int) : fitL p n k 0 = [] := rfl
theorem fitL_succ (p n k : Int) (a : Nat) : fitL p n k (a + 1) = fitL p n k a ++ (if fitI p k n (a : Int) = 0 then [(k, n, (a : Int))] else []) := by
  unfold fitL
  rw [List.range_succ, List.filter_append, List.map_append]
  congr 1
  by_cases h : fitI p k n (a : Int) = 0
  · rw [if_pos h]; simp [h]
  · rw [if_neg h]; simp [h]
theorem fitL_yes {p n k : Int} {a : Nat} (h : fitI p k n (a : Int) = 0) : fitL p n k (a + 1) = fitL p n k a ++ [(k, n, (a : Int))] := by rw [fitL_succ, if_pos h]
theorem fitL_no {p n k : Int} {a : Nat} (h : fitI p k n (a : Int) ≠ 0) : fitL p n k (a + 1) = fitL p n k a := by rw [fitL_succ, if_neg h, List.append_nil]
theorem fitL_uniq {p n k : Int} {m : Nat} (h : ∀ i : Nat, fitI p k n (i : Int) = 0 → i = m) : ∀ a, fitL p n k a = if m < a then one p k n (m : Int) else []
  | 0 => by rw [if_neg (by omega)]; rfl
  | a + 1 => by
    have ih := fitL_uniq h a
    by_cases hf : fitI p k n (a : Int) = 0
    · have := h a hf
      subst this
      rw [fitL_yes hf, ih, if_neg (by omega), if_pos (by omega), List.nil_append]
      unfold one
      rw [if_pos hf]
    · rw [fitL_no hf, ih]
      by_cases hm : m < a
      · rw [if_pos hm, if_pos (by omega)]
      · rw [if_neg hm]
        by_cases e : m = a
        · subst e
          rw [if_pos (by omega)]
          unfold one
          rw [if_neg hf]
        · rw [if_neg (by omega)]
theorem fit_can {p K N A : Int} (h : fitI p K N A = 0) : canB K N A = true := by
  unfold fitI at h
  split at h
  · rename_i h1; exact absurd h h1
  · split at h
    · omega
    · rename_i h2
      cases hc : canB K N A with
      | true => rfl
      | false => exact absurd (.inl hc) h2
/-- Where the document's inner loop ends. -/
def endK (n k : Int) : Nat := if k < 4 then 1 else if k = 4 then n.toNat else 2049
theorem pd_small {n : Int} (h : n ≤ 2048) : pd n ≤ 2048 := by
  unfold pd
  rw [if_neg (by omega)]
  by_cases h1 : n ≤ 1
  · rw [if_pos h1]; decide
  rw [if_neg h1]
  by_cases h2 : n ≤ 2
  · rw [if_pos h2]; decide
  rw [if_neg h2]
  by_cases h4 : n ≤ 4
  · rw [if_pos h4]; decide
  rw [if_neg h4]
  by_cases h8 : n ≤ 8
  · rw [if_pos h8]; decide
  rw [if_neg h8]
  by_cases h16 : n ≤ 16
  · rw [if_pos h16]; decide
  rw [if_neg h16]
  by_cases h32 : n ≤ 32
  · rw [if_pos h32]; decide
  rw [if_neg h32]
  by_cases h64 : n ≤ 64
  · rw [if_pos h64]; decide
  rw [if_neg h64]
  by_cases h128 : n ≤ 128
  · rw [if_pos h128]; decide
  rw [if_neg h128]
  by_cases h256 : n ≤ 256
  · rw [if_pos h256]; decide
  rw [if_neg h256]
  by_cases h512 : n ≤ 512
  · rw [if_pos h512]; decide
  rw [if_neg h512]
  by_cases h1024 : n ≤ 1024
  · rw [if_pos h1024]; decide
  rw [if_neg h1024]
  rw [if_pos h]; decide
theorem fitL_all {p n k : Int} (hn : 1 ≤ n ∧ n ≤ 1024) (hk : 0 ≤ k ∧ k ≤ 6) : fitL p n k (endK n k) = ofL p n k := by
  unfold ofL endK
  by_cases h4 : k < 4
  · rw [if_pos h4, if_neg (by omega), if_neg (by omega), if_neg (by omega), fitL_succ, fitL_zero, List.nil_append]; rfl
  · rw [if_neg h4]
    by_cases h44 : k = 4
    · subst h44
      rw [if_pos rfl, if_pos rfl]
      unfold fitL of4
      congr 1
      refine List.filter_congr fun i _ => ?_
      refine decide_eq_decide.2 ⟨fun h => ⟨?_, h⟩, fun h => h.2⟩
      have := (canB_four (fit_can h)).1
      omega
    · rw [if_neg h44, if_neg h44]
      by_cases h5 : k = 5
      · subst h5
        rw [if_pos rfl]
        have hr := rpad_range n
        obtain ⟨m, hm⟩ := Int.eq_ofNat_of_zero_le hr.1
        have hm2 : m < 2049 := by
          have : rpad n ≤ 2048 := by
            unfold rpad
            split
            · exact pd_small (by omega)
            · omega
          omega
        rw [fitL_uniq (m := m) (fun i hi => by
          have h := fit_can hi
          rw [canB_in hn] at h
          simp at h
          omega), if_pos hm2, hm]
      · have h6 : k = 6 := by omega
        subst h6
        rw [if_neg h5, if_pos rfl]
        have hc : cpad n = pd (2 * n - 1) := by unfold cpad; rw [if_pos hn]
        have h1 := pd_spec (show 2 * n - 1 ≤ 4096 by omega)
        obtain ⟨m, hm⟩ := Int.eq_ofNat_of_zero_le (show 0 ≤ cpad n by omega)
        have hm2 : m < 2049 := by
          have := pd_small (show 2 * n - 1 ≤ 2048 by omega)
          omega
        rw [fitL_uniq (m := m) (fun i hi => by
          have h := fit_can hi
          rw [canB_in hn] at h
          simp at h
          omega), if_pos hm2, hm]
/-- A list of plans in memory. -/
def plcells (l : List PlT) : List Value := l.flatMap fun x => [.int .i64 x.1, .int .i64 x.2.1, .int .i64 x.2.2]
theorem plcells_snoc (l : List PlT) (x : PlT) : plcells (l ++ [x]) = plcells l ++ [.int .i64 x.1, .int .i64 x.2.1, .int .i64 x.2.2] := by simp [plcells]
theorem plcells_length (l : List PlT) : (plcells l).length = 3 * l.length := by
  induction l with
  | nil => rfl
  | cons x l ih =>
    show (List.length ([.int .i64 x.1, .int .i64 x.2.1, .int .i64 x.2.2] ++ plcells l)) = _
    rw [List.length_append, ih]; simp; omega
theorem plcells_get (l : List PlT) : ∀ j, j < l.length → (plcells l)[j * 3]? = some (.int .i64 (l.getD j (0, 0, 0)).1) ∧ (plcells l)[j * 3 + 1]? = some (.int .i64 (l.getD j (0, 0, 0)).2.1) ∧ (plcells l)[j * 3 + 2]? = some (.int .i64 (l.getD j (0, 0, 0)).2.2) := by
  induction l with
  | nil => intro j hj; simp at hj
  | cons x l ih =>
    intro j hj
    rw [show plcells (x :: l) = [.int .i64 x.1, .int .i64 x.2.1, .int .i64 x.2.2] ++ plcells l from rfl]
    match j with
    | 0 => exact ⟨rfl, rfl, rfl⟩
    | j + 1 =>
      have h := ih j (by simpa using hj)
      rw [show (j + 1) * 3 = 3 + j * 3 by omega]
      simp only [List.getD_cons_succ]
      refine ⟨?_, ?_, ?_⟩
      · rw [List.getElem?_append_right (by simp)]; simpa using h.1
      · rw [List.getElem?_append_right (by simp; omega), show 3 + j * 3 + 1 - ([.int .i64 x.1, .int .i64 x.2.1, .int .i64 x.2.2] : List Value).length = j * 3 + 1 by simp; omega]; exact h.2.1
      · rw [List.getElem?_append_right (by simp; omega), show 3 + j * 3 + 2 - ([.int .i64 x.1, .int .i64 x.2.1, .int .i64 x.2.2] : List Value).length = j * 3 + 2 by simp; omega]; exact h.2.2
end Go.Proofs.YtmalmijdjhkklaaGreat
