/- What a split path is: the plain law. -/
import Derived.Test.YtpmiddhdgidimaaDoorHeadSplit
import Derived.Test.YtpmiddhdgidimaaDoorHeadJoin
set_option linter.unusedVariables false
set_option linter.unusedSimpArgs false
namespace Go.Proofs.YtpmiddhdgidimaaDoor

theorem split_short {S : List UInt8} (h : S.length ≤ 100) : splitT S = ([], S, true) := by unfold splitT; rw [if_pos h]
theorem split_yes {S : List UInt8} (h : ¬ S.length ≤ 100) (hs : (splitT S).2.2 = true) : ∃ p n, splitT S = (p, n, true) ∧ 0 < p.length ∧ p.length ≤ 155 ∧ 0 < n.length ∧ n.length ≤ 100 ∧ p ++ 47 :: n = S := by
  unfold splitT at hs ⊢
  rw [if_neg h] at hs ⊢
  obtain ⟨k, hk⟩ : ∃ k, S.length - 101 = k := ⟨_, rfl⟩
  rw [hk] at hs ⊢
  obtain ⟨q, hq⟩ : ∃ q, Lib.indexByte (S.drop k) 47 = q := ⟨_, rfl⟩
  simp only [hq] at hs ⊢
  by_cases hn : q < 0
  · rw [if_pos hn] at hs; cases hs
  · rw [if_neg hn] at hs ⊢
    obtain ⟨n, rfl⟩ : ∃ n : Nat, q = n := ⟨q.toNat, by omega⟩
    rw [Int.toNat_natCast] at hs ⊢
    by_cases hm : n + k < 1 ∨ 155 < n + k ∨ n + k = S.length - 1
    · rw [if_pos hm] at hs; cases hs
    · rw [if_neg hm]
      have h1 := (Lib.indexByte_some hq).1
      rw [List.getElem?_drop] at h1
      have hlt : k + n < S.length := (List.getElem?_eq_some_iff.1 h1).1
      obtain ⟨m, hmm⟩ : ∃ m, n + k = m := ⟨_, rfl⟩
      rw [show k + n = m by omega] at h1 hlt
      rw [hmm] at hm ⊢
      refine ⟨_, _, rfl, ?_, ?_, ?_, ?_, ?_⟩
      · rw [List.length_take]; omega
      · rw [List.length_take]; omega
      · rw [List.length_drop]; omega
      · rw [List.length_drop]; omega
      · have h2 : S[m] = 47 := (List.getElem?_eq_some_iff.1 h1).2
        have h3 := List.take_append_drop m S
        rw [List.drop_eq_getElem_cons hlt, h2] at h3
        exact h3
theorem split_no {S : List UInt8} (h : ¬ S.length ≤ 100) (hs : (splitT S).2.2 = false) (a : Nat) (ha : a < S.length) (hno : ∀ j, j < a → ¬ (S.getD j 0 = 47 ∧ S.length ≤ j + 101)) (hend : S.length ≤ a + 1 ∨ (S.getD a 0 = 47 ∧ S.length ≤ a + 101)) :
    splitT S = ([], [], false) ∧ (S.length ≤ a + 1 ∨ a = 0 ∨ 155 < a) := by
  unfold splitT at hs ⊢
  rw [if_neg h] at hs ⊢
  obtain ⟨k, hk⟩ : ∃ k, S.length - 101 = k := ⟨_, rfl⟩
  rw [hk] at hs ⊢
  obtain ⟨q, hq⟩ : ∃ q, Lib.indexByte (S.drop k) 47 = q := ⟨_, rfl⟩
  have hge := Lib.indexByte_ge (S.drop k) 47
  rw [hq] at hge
  simp only [hq] at hs ⊢
  have hga : S[a]? = some (S.getD a 0) := by rw [List.getD_eq_getElem?_getD, List.getElem?_eq_getElem ha]; rfl
  by_cases hn : q < 0
  · rw [if_pos hn]
    refine ⟨rfl, ?_⟩
    rcases hend with h1 | ⟨h1, h2⟩
    · exact .inl h1
    · exfalso
      have hq1 : q = -1 := by omega
      rw [hq1] at hq
      have := Lib.indexByte_none hq (a - k)
      rw [List.getElem?_drop, show k + (a - k) = a by omega, hga, h1] at this
      exact this rfl
  · rw [if_neg hn] at hs ⊢
    obtain ⟨n, rfl⟩ : ∃ n : Nat, q = n := ⟨q.toNat, by omega⟩
    rw [Int.toNat_natCast] at hs ⊢
    by_cases hm : n + k < 1 ∨ 155 < n + k ∨ n + k = S.length - 1
    · rw [if_pos hm]
      refine ⟨rfl, ?_⟩
      rcases hend with h1 | ⟨h1, h2⟩
      · exact .inl h1
      · have hf := Lib.indexByte_some hq
        have h3 := hf.1
        rw [List.getElem?_drop] at h3
        have hlt : k + n < S.length := (List.getElem?_eq_some_iff.1 h3).1
        have hle : ¬ a < n + k := by
          intro hl
          have := hf.2 (a - k) (by omega)
          rw [List.getElem?_drop, show k + (a - k) = a by omega, hga, h1] at this
          exact this rfl
        have hge2 : ¬ n + k < a := by
          intro hl
          apply hno (n + k) hl
          refine ⟨?_, by omega⟩
          rw [List.getD_eq_getElem?_getD, show n + k = k + n by omega, h3]; rfl
        omega
    · rw [if_neg hm] at hs; cases hs
end Go.Proofs.YtpmiddhdgidimaaDoor
