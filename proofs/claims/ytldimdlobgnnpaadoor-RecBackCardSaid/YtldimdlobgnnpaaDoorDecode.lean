/- Plain lemmas: bytes that the model's decoding of a rune goes over. No program in sight. -/
import Derived.Test.YtldimdlobgnnpaaDoorNum
import Derived.Laws.RangeAny
import Derived.Laws.Runes
import Derived.Lib.IndexAny
set_option linter.unusedVariables false
set_option linter.unusedSimpArgs false
namespace Go.Proofs.YtldimdlobgnnpaaDoor

/-- What is decoded at a byte of 128 or more: all bytes of it are such, and lie in the string. -/
theorem decode_over (s : ByteArray) (pos : Nat) (h : pos < s.size) (ha : 128 ≤ (s[pos]'h).toNat) :
    pos + (Utf8.decode s pos).2 ≤ s.size ∧ ∀ j, j < (Utf8.decode s pos).2 → 128 ≤ (s.get! (pos + j)).toNat := by
  have hn : ¬ (s[pos]'h).toNat < 128 := by omega
  have h0 : 128 ≤ (s.get! (pos + 0)).toNat := by rw [get_at s pos h]; exact ha
  have one : pos + 1 ≤ s.size ∧ ∀ j, j < 1 → 128 ≤ (s.get! (pos + j)).toNat := by
    refine ⟨by omega, fun j hj => ?_⟩
    obtain rfl : j = 0 := by omega
    exact h0
  simp only [Utf8.decode, get_at s pos h, hn, if_false]
  split
  · rename_i h1
    simp only [Bool.and_eq_true, beq_iff_eq, decide_eq_true_eq] at h1
    split
    · refine ⟨by simp only; omega, fun j hj => ?_⟩
      simp only at hj
      have : j = 0 ∨ j = 1 := by omega
      rcases this with rfl | rfl
      · exact h0
      · omega
    · exact one
  · split
    · rename_i h1
      simp only [Bool.and_eq_true, beq_iff_eq, decide_eq_true_eq] at h1
      split
      · refine ⟨by simp only; omega, fun j hj => ?_⟩
        simp only at hj
        have : j = 0 ∨ j = 1 ∨ j = 2 := by omega
        rcases this with rfl | rfl | rfl
        · exact h0
        · omega
        · omega
      · exact one
    · split
      · rename_i h1
        simp only [Bool.and_eq_true, beq_iff_eq, decide_eq_true_eq] at h1
        split
        · refine ⟨by simp only; omega, fun j hj => ?_⟩
          simp only at hj
          have : j = 0 ∨ j = 1 ∨ j = 2 ∨ j = 3 := by omega
          rcases this with rfl | rfl | rfl | rfl
          · exact h0
          · omega
          · omega
          · omega
        · exact one
      · exact one
/-- Bytes of 128 or more are none of a text of bytes below. -/
theorem noAny_over {s : ByteArray} {cs : List UInt8} {i d : Nat} (h : Lib.NoAny s.data.toList cs i) (hs : i + d ≤ s.size) (hcs : ∀ c ∈ cs, c.toNat < 128) (hb : ∀ j, j < d → 128 ≤ (s.get! (i + j)).toNat) : Lib.NoAny s.data.toList cs (i + d) := by
  intro j b hj hjb
  by_cases hlt : j < i
  · exact h j b hlt hjb
  · have h1 := hb (j - i) (by omega)
    rw [show i + (j - i) = j by omega] at h1
    have hjs : j < s.size := by omega
    have e : s.get! j = b := by
      have h2 := get_at s j hjs
      rw [Nat.add_zero] at h2
      rw [h2]
      have : s.data.toList[j]? = some s[j] := by
        rw [List.getElem?_eq_getElem (by simpa using hjs)]
        simp [ByteArray.getElem_eq_getElem_data]
      rw [this] at hjb
      exact Option.some.inj hjb
    rw [e] at h1
    cases hc : cs.contains b with
    | false => rfl
    | true =>
      have := hcs b (by simpa using hc)
      omega
end Go.Proofs.YtldimdlobgnnpaaDoor
