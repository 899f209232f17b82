/- The statements' own headers: by numbers and texts: the plain law. -/
import Derived.Test.YtpmiddhdgidimaaGreatDoorHeadPlain
set_option linter.unusedVariables false
set_option linter.unusedSimpArgs false
namespace Go.Proofs.YtpmiddhdgidimaaGreatDoor

/-- No byte 0. -/
def clean (l : List UInt8) : List UInt8 := l.map (fun c => if c = 0 then 48 else c)
def textM (l : List UInt8) (n : Nat) : List UInt8 := clean (l.take n)
theorem clean_length (l : List UInt8) : (clean l).length = l.length := by unfold clean; simp
theorem clean_no (l : List UInt8) : ∀ c ∈ clean l, c ≠ 0 := by
  intro c hc
  unfold clean at hc
  obtain ⟨x, _, rfl⟩ := List.mem_map.1 hc
  split
  · decide
  · assumption
theorem textM_length (l : List UInt8) (n : Nat) : (textM l n).length ≤ n := by unfold textM; rw [clean_length, List.length_take]; omega
theorem textOk_of {l : List UInt8} {n : Nat} (h1 : l.length ≤ n) (h2 : ∀ c ∈ l, c ≠ 0) : textOk l n = true := by
  unfold textOk
  simp only [Bool.and_eq_true, decide_eq_true_eq, Bool.not_eq_true', List.contains_eq_mem, decide_eq_false_iff_not]
  exact ⟨h1, fun h => h2 0 h rfl⟩
theorem textM_ok (l : List UInt8) (n : Nat) : textOk (textM l n) n = true := textOk_of (textM_length l n) (clean_no _)
/-- Seven numbers of 32 bits. -/
structure Nums (k : Nat → Int) : Prop where
  range : ∀ i, 0 ≤ k i ∧ k i ≤ 4294967295
def makeT (a b : List UInt8) (k : Nat → Int) (t : UInt8) : Hd :=
  ⟨textM a 100, k 0 % 4096, k 1, k 2, k 3 * 999, k 4 - 2147483648, t, textM b 100, textM a 32, [], k 5 % 2097152, k 6, textM b 155⟩
theorem field_octal {n : Int} {w : Nat} (h0 : 0 ≤ n) (h1 : n < ((8 ^ (w - 1) : Nat) : Int)) : (fieldT n w).isSome = true := by
  unfold fieldT
  rw [show octOk w n = true by unfold octOk; simp [h0]; exact_mod_cast h1]
  rfl
theorem field_base {n : Int} {w : Nat} (h : baseOk w n = true) : (fieldT n w).isSome = true := by
  unfold fieldT
  split
  · rfl
  · first | rfl | (rw [if_pos h]; rfl)
theorem field8 {n : Int} (h0 : -72057594037927936 ≤ n) (h1 : n < 72057594037927936) : (fieldT n 8).isSome = true := by
  apply field_base
  unfold baseOk
  simp [h0, h1]
theorem field12 (n : Int) : (fieldT n 12).isSome = true := by
  apply field_base
  rfl
theorem make_may (a b : List UInt8) (k : Nat → Int) (t : UInt8) (h : Nums k) : MayH (makeT a b k t) := by
  have r0 := h.range 0
  have r1 := h.range 1
  have r2 := h.range 2
  have r3 := h.range 3
  have r5 := h.range 5
  have r6 := h.range 6
  refine ⟨textM_ok _ _, textM_ok _ _, textM_ok _ _, rfl, textM_ok _ _, ?_, ?_, ?_, ?_, ?_, ?_, field12 _⟩
  all_goals
    unfold makeT
    simp only
    first
      | exact ⟨field8 (by omega) (by omega), by omega⟩
      | exact ⟨field12 _, by omega⟩
theorem make_ints (a b : List UInt8) (k : Nat → Int) (t : UInt8) (h : Nums k) : Ints (makeT a b k t) := by
  have r0 := h.range 0
  have r1 := h.range 1
  have r2 := h.range 2
  have r3 := h.range 3
  have r4 := h.range 4
  have r5 := h.range 5
  have r6 := h.range 6
  constructor <;> unfold makeT <;> simp only <;> omega
end Go.Proofs.YtpmiddhdgidimaaGreatDoor
