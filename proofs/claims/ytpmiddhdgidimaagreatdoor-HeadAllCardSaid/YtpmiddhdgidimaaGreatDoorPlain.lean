/- Plain lemmas: strings as lists of bytes, numbers of a kind, wraps. No program in sight. -/
import Derived.Test.YtpmiddhdgidimaaGreatDoorWWords
import Derived.Test.YtpmiddhdgidimaaGreatDoorWLast
import Derived.Lib.TrimByte
import Derived.Lib.Repeat
import Derived.Lib.Strings
set_option linter.unusedVariables false
set_option linter.unusedSimpArgs false
namespace Go.Proofs.YtpmiddhdgidimaaGreatDoor
open Go.RowKit Go.Proofs.YtpmiddhdgidimaaGreatDoorW.PrintWords

/-- The string of a list of bytes. -/
def mkS (l : List UInt8) : ByteArray := ⟨l.toArray⟩
theorem mkS_data (s : ByteArray) : mkS s.data.toList = s := by cases s; simp [mkS]
theorem exists_mkS (s : ByteArray) : ∃ l, s = mkS l := ⟨_, (mkS_data s).symm⟩
@[simp] theorem data_mkS (l : List UInt8) : (mkS l).data.toList = l := by simp [mkS]
@[simp] theorem size_mkS (l : List UInt8) : (mkS l).size = l.length := by simp [mkS, ByteArray.size]
@[simp] theorem toList_mkS (l : List UInt8) : (mkS l).toList = l := by rw [Lib.toList_data, data_mkS]
theorem mkS_inj {a b : List UInt8} : mkS a = mkS b ↔ a = b := ⟨fun h => by simpa using congrArg (fun s => s.data.toList) h, fun h => by rw [h]⟩
theorem append_mkS (a b : List UInt8) : mkS a ++ mkS b = mkS (a ++ b) := by
  have h : (mkS a ++ mkS b).data.toList = a ++ b := by simp
  rw [← mkS_data (mkS a ++ mkS b), h]
theorem extract_mkS (l : List UInt8) (a b : Nat) : (mkS l).extract a b = mkS ((l.drop a).take (b - a)) := by
  have h : ((mkS l).extract a b).data.toList = (l.drop a).take (b - a) := by simp
  rw [← mkS_data ((mkS l).extract a b), h]
theorem bt_mkS (l : List UInt8) (i : Int) : bt (mkS l) i = ((l.getD i.toNat 0).toNat : Int) := by
  unfold bt
  split
  · rename_i h
    have h' : i.toNat < l.length := by simpa using h
    rw [List.getD_eq_getElem?_getD, List.getElem?_eq_getElem h']
    simp [mkS, ByteArray.getElem_eq_getElem_data]
  · rename_i h
    have h' : l.length ≤ i.toNat := by simpa using h
    rw [List.getD_eq_getElem?_getD, List.getElem?_eq_none h']; rfl
theorem toList_eq_iff (a b : ByteArray) : a.toList = b.toList ↔ a = b := by
  obtain ⟨x, rfl⟩ := exists_mkS a; obtain ⟨y, rfl⟩ := exists_mkS b; simp [mkS_inj]

theorem wf_i64 {n : Int} (h : (Lit.int .i64 n).wf = true) : -9223372036854775808 ≤ n ∧ n ≤ 9223372036854775807 := by
  simp only [Lit.wf, Bool.and_eq_true, decide_eq_true_eq] at h; exact h
theorem wf_u32 {n : Int} (h : (Lit.int .u32 n).wf = true) : 0 ≤ n ∧ n ≤ 4294967295 := by
  simp only [Lit.wf, Bool.and_eq_true, decide_eq_true_eq] at h; exact h
theorem wf_u16 {n : Int} (h : (Lit.int .u16 n).wf = true) : 0 ≤ n ∧ n ≤ 65535 := by
  simp only [Lit.wf, Bool.and_eq_true, decide_eq_true_eq] at h; exact h
theorem wf_u8 {n : Int} (h : (Lit.int .u8 n).wf = true) : 0 ≤ n ∧ n ≤ 255 := by
  simp only [Lit.wf, Bool.and_eq_true, decide_eq_true_eq] at h; exact h
theorem wf_u64 {n : Int} (h : (Lit.int .u64 n).wf = true) : 0 ≤ n ∧ n ≤ 18446744073709551615 := by
  simp only [Lit.wf, Bool.and_eq_true, decide_eq_true_eq] at h; exact h
theorem w64 {x : Int} (h : -9223372036854775808 ≤ x ∧ x ≤ 9223372036854775807) : wrap64 x = x := by unfold wrap64; omega

theorem repeatL_one_byte (c : UInt8) : ∀ n, Lib.repeatL [c] n = List.replicate n c
  | 0 => rfl
  | n + 1 => by rw [Lib.repeatL, repeatL_one_byte c n]; rfl
theorem dropWhile_nil {α : Type} (p : α → Bool) : ∀ l : List α, l.dropWhile p = [] ↔ ∀ x ∈ l, p x = true
  | [] => by simp
  | a :: l => by
    rw [List.dropWhile_cons]
    split
    · rename_i h; rw [dropWhile_nil p l]; simp [h]
    · rename_i h; simp [h]
theorem dropWhile_head {α : Type} (p : α → Bool) : ∀ (l : List α) (y : α) (t : List α), l.dropWhile p = y :: t → p y = false
  | [], y, t, h => by simp at h
  | a :: l, y, t, h => by
    rw [List.dropWhile_cons] at h
    split at h
    · exact dropWhile_head p l y t h
    · rename_i hp
      obtain ⟨rfl, _⟩ := List.cons.inj h
      simpa using hp
theorem trimB_nil (l : List UInt8) (c : UInt8) : Lib.trimB l c = [] ↔ ∀ x ∈ l, x = c := by
  unfold Lib.trimB Lib.trimLeftB Lib.trimRightB
  rw [dropWhile_nil]
  constructor
  · intro h
    cases h3 : l.reverse.dropWhile (· == c) with
    | nil =>
      have h4 := (dropWhile_nil _ _).1 h3
      intro x hx
      simpa using h4 x (by simpa using hx)
    | cons y t =>
      exfalso
      have h5 := dropWhile_head _ _ _ _ h3
      have h6 := h y (by rw [h3]; simp)
      rw [h5] at h6
      exact absurd h6 (by simp)
  · intro h x hx
    have : x ∈ l.reverse := (List.dropWhile_sublist _).subset (by simpa using hx)
    simpa using h x (by simpa using this)
end Go.Proofs.YtpmiddhdgidimaaGreatDoor
