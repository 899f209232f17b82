/- The texts of a header, as May asks them. -/
import Derived.Test.YtpmiddhdgidimaaGreatDoorHeadTexts
set_option linter.unusedVariables false
set_option linter.unusedSimpArgs false
namespace Go.Proofs.YtpmiddhdgidimaaGreatDoor
open Go.RowKit Go.Proofs.YtpmiddhdgidimaaGreatDoorW.PrintWords

/-- An entry that May lets pass. -/
def entOk (t : List UInt8 × Int) : Bool := decide ((t.1.length : Int) - 1 ≤ t.2) && !t.1.contains 0
def textsOk (h : Hd) : Bool := textOk h.name 100 && textOk h.link 100 && textOk h.uname 32 && textOk h.gname 32 && textOk h.pre 155
theorem entOk_cons (c : UInt8) (hc : c ≠ 0) (l : List UInt8) (n : Nat) : entOk (c :: l, (n : Int)) = textOk l n := by
  unfold entOk textOk
  have e1 : decide ((((c :: l, (n : Int)).1.length : Nat) : Int) - 1 ≤ (c :: l, (n : Int)).2) = decide (l.length ≤ n) := by
    apply decide_eq_decide.2
    simp only [List.length_cons]
    omega
  have e2 : (c :: l).contains 0 = l.contains 0 := by
    rw [List.contains_cons]
    have : ((0 : UInt8) == c) = false := beq_eq_false_iff_ne.2 (Ne.symm hc)
    rw [this, Bool.false_or]
  rw [e1, e2]
theorem ents_ok (h : Hd) : (textEntries h).all entOk = textsOk h := by
  unfold textEntries textsOk
  simp only [List.all_cons, List.all_nil, Bool.and_true]
  rw [show (110 :: h.name, (100 : Int)) = (110 :: h.name, ((100 : Nat) : Int)) from rfl, show (108 :: h.link, (100 : Int)) = (108 :: h.link, ((100 : Nat) : Int)) from rfl, show (117 :: h.uname, (32 : Int)) = (117 :: h.uname, ((32 : Nat) : Int)) from rfl, show (103 :: h.gname, (32 : Int)) = (103 :: h.gname, ((32 : Nat) : Int)) from rfl, show (112 :: h.pre, (155 : Int)) = (112 :: h.pre, ((155 : Nat) : Int)) from rfl]
  rw [entOk_cons _ (by decide), entOk_cons _ (by decide), entOk_cons _ (by decide), entOk_cons _ (by decide), entOk_cons _ (by decide)]
  simp only [Bool.and_assoc]
theorem ents_all (h : Hd) (L : List (List UInt8 × Int)) (hm : ∀ t, t ∈ L ↔ t ∈ textEntries h) : L.all entOk = textsOk h := by
  rw [← ents_ok, Bool.eq_iff_iff, List.all_eq_true, List.all_eq_true]
  exact ⟨fun H t ht => H t ((hm t).2 ht), fun H t ht => H t ((hm t).1 ht)⟩
theorem indexByte_contains (c : UInt8) : ∀ l : List UInt8, decide (0 ≤ Lib.indexByte l c) = l.contains c
  | [] => rfl
  | b :: l => by
    have ih := indexByte_contains c l
    have hge := Lib.indexByte_ge l c
    unfold Lib.indexByte
    rw [List.contains_cons]
    by_cases h : b = c
    · subst h; simp
    · have h1 : (b == c) = false := beq_eq_false_iff_ne.2 h
      have h2 : (c == b) = false := beq_eq_false_iff_ne.2 (Ne.symm h)
      rw [h1, h2, Bool.false_or, ← ih]
      simp only [Bool.false_eq_true, if_false]
      apply decide_eq_decide.2
      split
      · rename_i h3
        have := eq_of_beq h3
        rw [this]
      · rename_i h3
        have h4 : Lib.indexByte l c ≠ -1 := fun e => h3 (by rw [e]; rfl)
        omega
def numsL (h : Hd) : List Int := [h.mode, h.uid, h.gid, h.major, h.minor]
theorem mayH_parts (h : Hd) : mayH h = (textsOk h && (numsL h).all numOk && ((fieldT h.size 12).isSome && (fieldT h.mtime 12).isSome && decide (0 ≤ h.size))) := by
  unfold mayH textsOk numsL
  simp only [List.all_cons, List.all_nil, Bool.and_true, Bool.and_assoc]
theorem mayH_no_text {h : Hd} (ht : textsOk h = false) : mayH h = false := by rw [mayH_parts, ht]; rfl
theorem mayH_no_num {h : Hd} {n : Int} (hm : n ∈ numsL h) (hn : numOk n = false) : mayH h = false := by
  have : (numsL h).all numOk = false := List.all_eq_false.2 ⟨n, hm, by rw [hn]; decide⟩
  rw [mayH_parts, this, Bool.and_false, Bool.false_and]
theorem mayH_rest {h : Hd} (ht : textsOk h = true) (hn : ∀ n ∈ numsL h, numOk n = true) : mayH h = ((fieldT h.size 12).isSome && (fieldT h.mtime 12).isSome && decide (0 ≤ h.size)) := by
  have : (numsL h).all numOk = true := List.all_eq_true.2 hn
  rw [mayH_parts, this, ht, Bool.true_and, Bool.true_and]
theorem entry_fits {h : Hd} (hf : Fits h) (t : List UInt8 × Int) (ht : t ∈ textEntries h) : t.1.length ≤ 140737488351233 ∧ 0 ≤ t.2 ∧ t.2 ≤ 155 := by
  have h1 := hf.name
  have h2 := hf.link
  have h3 := hf.uname
  have h4 := hf.gname
  have h5 := hf.pre
  unfold textEntries at ht
  simp only [List.mem_cons, List.not_mem_nil, or_false] at ht
  rcases ht with rfl | rfl | rfl | rfl | rfl <;> simp only [List.length_cons] <;> omega
theorem entOk_not (t : List UInt8 × Int) : entOk t = !(decide (t.2 < (t.1.length : Int) - 1) || t.1.contains 0) := by
  unfold entOk
  rw [Bool.not_or]
  congr 1
  rw [← decide_not]
  apply decide_eq_decide.2
  omega
end Go.Proofs.YtpmiddhdgidimaaGreatDoor
