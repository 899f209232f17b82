/- Plain lemmas: a text cut at each of a byte. -/
import Derived.Test.YtejgnnhmeolphaaDoorPlain
import Derived.Lib.SplitLaws
set_option linter.unusedVariables false
set_option linter.unusedSimpArgs false
namespace Go.Proofs.YtejgnnhmeolphaaDoor
open Go.RowKit

/-- A text cut at each of a byte. -/
def splitOn (c : UInt8) : List UInt8 → List (List UInt8)
  | [] => [[]]
  | b :: l => if b = c then [] :: splitOn c l else match splitOn c l with
    | [] => [[b]]
    | x :: r => (b :: x) :: r
theorem splitOn_ne (c : UInt8) (l : List UInt8) : splitOn c l ≠ [] := by
  cases l with
  | nil => simp [splitOn]
  | cons b l =>
    simp only [splitOn]
    split
    · simp
    · split <;> simp
theorem splitK_miss (c : UInt8) (k : Nat) (s : List UInt8) (h : Lib.index s [c] = -1) : Lib.splitK [c] 0 k s = [s] := by
  cases k with
  | zero => rfl
  | succ k => simp [Lib.splitK, h]
theorem splitK_cons (c b : UInt8) (l : List UInt8) (k : Nat) (hb : b ≠ c) : Lib.splitK [c] 0 k (b :: l) = match Lib.splitK [c] 0 k l with | [] => [[b]] | x :: r => (b :: x) :: r := by
  have hp : ([c] : List UInt8).isPrefixOf (b :: l) = false := by simp [List.isPrefixOf, Ne.symm hb]
  have hix : Lib.index (b :: l) [c] = if Lib.index l [c] == -1 then -1 else Lib.index l [c] + 1 := by rw [Lib.index, hp]; simp
  by_cases hm : Lib.index l [c] = -1
  · rw [splitK_miss c k l hm, splitK_miss c k (b :: l) (by rw [hix, if_pos (beq_iff_eq.2 hm)])]
  · have hge := Lib.index_ge l [c]
    obtain ⟨j, hj⟩ : ∃ j : Nat, Lib.index l [c] = j := ⟨(Lib.index l [c]).toNat, by omega⟩
    have hix' : Lib.index (b :: l) [c] = ((j + 1 : Nat) : Int) := by rw [hix, if_neg (fun e => hm (beq_iff_eq.1 e)), hj]; omega
    cases k with
    | zero => rfl
    | succ k =>
      have e1 : (((j + 1 : Nat) : Int) == -1) = false := by rw [beq_eq_false_iff_ne]; omega
      have e2 : (((j : Nat) : Int) == -1) = false := by rw [beq_eq_false_iff_ne]; omega
      simp only [Lib.splitK, hix', hj, e1, e2, Int.toNat_natCast]
      simp
theorem splitK_on (c : UInt8) : ∀ l : List UInt8, Lib.splitK [c] 0 (Lib.count l [c]) l = splitOn c l
  | [] => by
    rw [splitK_miss c _ [] (by simp [Lib.index])]; rfl
  | b :: l => by
    by_cases h : b = c
    · subst h
      have hix : Lib.index (b :: l) [b] = ((0 : Nat) : Int) := by rw [Lib.index]; simp [List.isPrefixOf]
      have e1 : (((0 : Nat) : Int) == -1) = false := by decide
      rw [Lib.count_cons_eq, Nat.add_comm]
      simp only [Lib.splitK, hix, e1, Int.toNat_natCast, splitOn, if_true]
      have := splitK_on b l
      simp [this]
    · rw [Lib.count_cons_ne b c l h, splitK_cons c b l _ h, splitK_on c l]
      simp only [splitOn, if_neg h]
theorem splitOn_length (c : UInt8) (l : List UInt8) : (splitOn c l).length = l.count c + 1 := by
  induction l with
  | nil => rfl
  | cons b l ih =>
    simp only [splitOn]
    split
    · rename_i h; subst h; simp [ih]
    · rename_i h
      rw [List.count_cons_of_ne (by simpa using h)]
      cases hs : splitOn c l with
      | nil => exact absurd hs (splitOn_ne c l)
      | cons x r => rw [hs] at ih; simpa using ih
theorem splitB_on (c : UInt8) (l : List UInt8) : Lib.splitB ⟨#[c]⟩ 0 (Lib.countB (mkS l) ⟨#[c]⟩) (mkS l) = (splitOn c l).map mkS := by
  have h := Lib.splitB_data ⟨#[c]⟩ 0 (Lib.countB (mkS l) ⟨#[c]⟩) (mkS l)
  have e : Lib.countB (mkS l) ⟨#[c]⟩ = Lib.count l [c] := by unfold Lib.countB; rw [data_mkS]
  rw [e] at h ⊢
  rw [data_mkS, splitK_on] at h
  rw [← h, List.map_map]
  conv => lhs; rw [← List.map_id (Lib.splitB _ _ _ _)]
  apply List.map_congr_left
  intro s _
  simp [mkS_data]
theorem countB_on (c : UInt8) (l : List UInt8) : Lib.countB (mkS l) ⟨#[c]⟩ + 1 = (splitOn c l).length := by
  rw [splitOn_length]
  unfold Lib.countB
  rw [data_mkS, Lib.count_one]
end Go.Proofs.YtejgnnhmeolphaaDoor
