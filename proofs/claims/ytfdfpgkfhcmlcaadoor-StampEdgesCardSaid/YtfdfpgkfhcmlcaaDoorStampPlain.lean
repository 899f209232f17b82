/- Plain laws of times: a time's text, the time of a text. No program in sight. -/
import Derived.Test.YtfdfpgkfhcmlcaaDoorNum
set_option linter.unusedVariables false
set_option linter.unusedSimpArgs false
namespace Go.Proofs.YtfdfpgkfhcmlcaaDoor

def mayT (s n : Int) : Bool := decide (-1099511627776 ≤ s) && decide (s ≤ 1099511627776) && decide (0 ≤ n) && decide (n < 1000000000)
theorem may_iffT {s n : Int} : mayT s n = true ↔ -1099511627776 ≤ s ∧ s ≤ 1099511627776 ∧ 0 ≤ n ∧ n < 1000000000 := by
  unfold mayT
  simp only [Bool.and_eq_true, decide_eq_true_eq, and_assoc]
def wholeT (s n : Int) : Nat := if s < 0 then (if 0 < n then (-s - 1).toNat else (-s).toNat) else s.toNat
def partT (s n : Int) : Nat := if s < 0 then (if 0 < n then (1000000000 - n).toNat else n.toNat) else n.toNat
def signT (s : Int) : List UInt8 := if s < 0 then [45] else []
def fracT (r : Nat) : List UInt8 := Lib.trimRightB (List.replicate (9 - (Lib.decDigits r).length) 48 ++ Lib.decDigits r) 48
def textT (s n : Int) : List UInt8 := signT s ++ Lib.decDigits (wholeT s n) ++ (if partT s n = 0 then [] else 46 :: fracT (partT s n))
/-- What a text's whole part and rest say, with the sign. -/
def turnT (neg : Bool) (sec nano : Int) : Int × Int := if neg = true then (if 0 < nano then (IntKind.i64.wrap (IntKind.i64.wrap (-sec) - 1), IntKind.i64.wrap (1000000000 - nano)) else (IntKind.i64.wrap (-sec), nano)) else (sec, nano)
def isT (x : List UInt8) (t : Int × Int) : Option (Int × Int) := if mayT t.1 t.2 = true ∧ textT t.1 t.2 = x then some t else none
def padT (b : List UInt8) : List UInt8 := b ++ List.replicate (9 - b.length) 48
def parseT (x : List UInt8) : Option (Int × Int) :=
  let c := cutAt 46 (Lib.trimPrefix x [45])
  if 9 < c.2.1.length then none else
  match Lib.atoiAll c.1, Lib.atoiAll (padT c.2.1) with
  | .ok sec, .ok nano => if 1099511627776 < sec ∨ 1000000000 ≤ nano then none else isT x (turnT (Lib.hasPrefix x [45]) sec nano)
  | _, _ => none
theorem is_some {x : List UInt8} {t u : Int × Int} (h : isT x t = some u) : mayT u.1 u.2 = true ∧ textT u.1 u.2 = x := by
  unfold isT at h
  split at h
  · rename_i h1
    obtain rfl := Option.some.inj h
    exact h1
  · cases h
/-- What is told is a time that may be, and its text is what was read. -/
theorem parse_sound {x : List UInt8} {s n : Int} (h : parseT x = some (s, n)) : mayT s n = true ∧ textT s n = x := by
  unfold parseT at h
  simp only at h
  split at h
  · cases h
  · split at h
    · split at h
      · cases h
      · exact is_some h
    · cases h
/- Digits. -/
theorem dec_no {u : Nat} {c : UInt8} (hc : c.toNat < 48 ∨ 57 < c.toNat) : c ∉ Lib.decDigits u := fun h => by
  have := num_digit u c h
  omega
theorem trimRightB_spec (l : List UInt8) (c : UInt8) : ∃ k, l = Lib.trimRightB l c ++ List.replicate k c ∧ (∀ x, (Lib.trimRightB l c).getLast? = some x → x ≠ c) := by
  unfold Lib.trimRightB
  refine ⟨(l.reverse.takeWhile (· == c)).length, ?_, ?_⟩
  · have h1 : l.reverse = l.reverse.takeWhile (· == c) ++ l.reverse.dropWhile (· == c) := (List.takeWhile_append_dropWhile).symm
    have h2 : l.reverse.takeWhile (· == c) = List.replicate (l.reverse.takeWhile (· == c)).length c := by
      refine List.eq_replicate_iff.2 ⟨rfl, fun b hb => ?_⟩
      have h := List.all_takeWhile (p := (· == c)) (l := l.reverse)
      simpa using List.all_eq_true.1 h b hb
    have h3 := congrArg List.reverse h1
    rw [List.reverse_reverse, List.reverse_append] at h3
    conv => lhs; rw [h3]
    congr 1
    conv => lhs; rw [h2]
    rw [List.reverse_replicate]
  · intro x hx
    rw [List.getLast?_reverse] at hx
    have := List.head?_dropWhile_not (p := (· == c)) (l := l.reverse)
    rw [hx] at this
    simpa using this
theorem parse_zeros : ∀ (k : Nat) (l : List UInt8), Lib.parseUint10 0 (List.replicate k 48 ++ l) = Lib.parseUint10 0 l
  | 0, l => rfl
  | k + 1, l => by
    rw [List.replicate_succ, List.cons_append]
    rw [Lib.parseUint10, show ((48 : UInt8).toNat) = 48 from rfl, if_pos (by omega), if_neg (by omega), if_neg (by omega)]
    exact parse_zeros k l
theorem dec_len9 {r : Nat} (h : r < 1000000000) : (Lib.decDigits r).length ≤ 9 := by
  rw [Lib.decDigits_length]
  have := nDigits_mono r 999999999 (by omega)
  have e : Lib.nDigits 999999999 = 9 := by simp [Lib.nDigits_big, Lib.nDigits_small]
  omega
def padded (r : Nat) : List UInt8 := List.replicate (9 - (Lib.decDigits r).length) 48 ++ Lib.decDigits r
theorem padded_len {r : Nat} (h : r < 1000000000) : (padded r).length = 9 := by
  have := dec_len9 h
  simp [padded]
  omega
theorem padded_read {r : Nat} (h : r < 1000000000) : Lib.atoiAll (padded r) = .ok (r : Int) := by
  refine num_read ?_ ?_ ?_ (by omega)
  · intro e
    have := padded_len h
    rw [e] at this
    simp at this
  · intro x hx
    rcases List.mem_append.1 hx with hx | hx
    · have := List.eq_of_mem_replicate hx
      subst this
      decide
    · exact num_digit r x hx
  · unfold padded
    rw [parse_zeros, num_parse r (by omega)]
/-- A rest's digits, filled up again. -/
theorem pad_frac {r : Nat} (h : r < 1000000000) : padT (fracT r) = padded r ∧ (fracT r).length ≤ 9 := by
  obtain ⟨k, hk, _⟩ := trimRightB_spec (padded r) 48
  have hl := padded_len h
  have e : fracT r = Lib.trimRightB (padded r) 48 := rfl
  have h2 := congrArg List.length hk
  rw [List.length_append, List.length_replicate, hl] at h2
  rw [← e] at hk h2
  refine ⟨?_, by omega⟩
  unfold padT
  rw [show 9 - (fracT r).length = k by omega]
  exact hk.symm
theorem frac_no {r : Nat} {c : UInt8} (hc : c.toNat < 48 ∨ 57 < c.toNat) : c ∉ fracT r := fun h => by
  obtain ⟨k, hk, _⟩ := trimRightB_spec (padded r) 48
  have hm : c ∈ padded r := by rw [hk]; exact List.mem_append.2 (.inl h)
  rcases List.mem_append.1 hm with hm | hm
  · have := List.eq_of_mem_replicate hm
    subst this
    revert hc; decide
  · exact dec_no hc hm
theorem part_lt {s n : Int} (h : mayT s n = true) : partT s n < 1000000000 := by
  obtain ⟨h1, h2, h3, h4⟩ := may_iffT.1 h
  unfold partT
  split <;> try split
  all_goals omega
theorem whole_le {s n : Int} (h : mayT s n = true) : wholeT s n ≤ 1099511627776 := by
  obtain ⟨h1, h2, h3, h4⟩ := may_iffT.1 h
  unfold wholeT
  split <;> try split
  all_goals omega
theorem part_zero {s n : Int} (h : mayT s n = true) : partT s n = 0 ↔ n = 0 := by
  obtain ⟨h1, h2, h3, h4⟩ := may_iffT.1 h
  unfold partT
  split <;> try split
  all_goals omega
theorem turn_back {s n : Int} (h : mayT s n = true) : turnT (decide (s < 0)) (wholeT s n : Int) (partT s n : Int) = (s, n) := by
  obtain ⟨h1, h2, h3, h4⟩ := may_iffT.1 h
  have hw := whole_le h
  have hp := part_lt h
  unfold turnT
  by_cases hs : s < 0
  · simp only [hs, decide_true, if_true]
    by_cases hn : 0 < n
    · have e1 : wholeT s n = (-s - 1).toNat := by unfold wholeT; rw [if_pos hs, if_pos hn]
      have e2 : partT s n = (1000000000 - n).toNat := by unfold partT; rw [if_pos hs, if_pos hn]
      rw [if_pos (by omega)]
      refine Prod.ext ?_ ?_
      · simp only [IntKind.wrap_i64]; omega
      · simp only [IntKind.wrap_i64]; omega
    · have e1 : wholeT s n = (-s).toNat := by unfold wholeT; rw [if_pos hs, if_neg hn]
      have e2 : partT s n = n.toNat := by unfold partT; rw [if_pos hs, if_neg hn]
      rw [if_neg (by omega)]
      refine Prod.ext ?_ ?_
      · simp only [IntKind.wrap_i64]; omega
      · simp only; omega
  · have e1 : wholeT s n = s.toNat := by unfold wholeT; rw [if_neg hs]
    have e2 : partT s n = n.toNat := by unfold partT; rw [if_neg hs]
    simp only [hs, decide_false]
    refine Prod.ext ?_ ?_
    · simp only [Bool.false_eq_true, if_false]; omega
    · simp only [Bool.false_eq_true, if_false]; omega
theorem hasPrefix_one (c : UInt8) (x : List UInt8) : Lib.hasPrefix x [c] = match x with | [] => false | b :: _ => b == c := by
  cases x with
  | nil => rfl
  | cons b r =>
    unfold Lib.hasPrefix
    simp [List.isPrefixOf, Bool.beq_comm]
theorem trimPrefix_sign (s n : Int) : Lib.hasPrefix (textT s n) [45] = decide (s < 0) ∧ Lib.trimPrefix (textT s n) [45] = Lib.decDigits (wholeT s n) ++ (if partT s n = 0 then [] else 46 :: fracT (partT s n)) := by
  have hne := num_ne (wholeT s n)
  have h45 : (45 : UInt8) ∉ Lib.decDigits (wholeT s n) := dec_no (by decide)
  unfold textT signT Lib.trimPrefix
  rw [hasPrefix_one]
  by_cases hs : s < 0
  · simp only [hs, if_true]
    simp
  · simp only [hs, if_false, List.nil_append]
    cases hd : Lib.decDigits (wholeT s n) with
    | nil => exact absurd hd hne
    | cons b r =>
      rw [hd] at h45
      have hb : (b == (45 : UInt8)) = false := by
        simp at h45 ⊢
        exact fun e => h45.1 e.symm
      simp [hb]
/-- A time that may be is told again by its text. -/
theorem parse_back {s n : Int} (h : mayT s n = true) : parseT (textT s n) = some (s, n) := by
  obtain ⟨h1, h2⟩ := trimPrefix_sign s n
  have hw := whole_le h
  have hp := part_lt h
  have h46 : (46 : UInt8) ∉ Lib.decDigits (wholeT s n) := dec_no (by decide)
  have ht := turn_back h
  have hi : isT (textT s n) (s, n) = some (s, n) := by unfold isT; rw [if_pos ⟨h, rfl⟩]
  unfold parseT
  simp only [h1, h2]
  by_cases hz : partT s n = 0
  · rw [if_pos hz, List.append_nil, cutAt_miss 46 _ h46]
    simp only [List.length_nil]
    rw [if_neg (by omega), num_atoi _ (by omega)]
    have e : Lib.atoiAll (padT []) = .ok 0 := by decide +kernel
    rw [e]
    simp only
    rw [if_neg (by omega)]
    rw [hz] at ht
    rw [show ((0 : Nat) : Int) = 0 from rfl] at ht
    rw [ht]
    exact hi
  · rw [if_neg hz, cutAt_hit 46 _ _ h46]
    obtain ⟨p1, p2⟩ := pad_frac hp
    simp only
    rw [if_neg (by omega), num_atoi _ (by omega), p1, padded_read hp]
    simp only
    rw [if_neg (by omega), ht]
    exact hi
theorem text_len {s n : Int} (h : mayT s n = true) : 0 < (textT s n).length ∧ (textT s n).length ≤ 40 := by
  have hw := whole_le h
  have hp := part_lt h
  have h1 := Lib.nDigits_le20 (wholeT s n) (by omega)
  have h2 := Lib.nDigits_pos (wholeT s n)
  have h3 := (pad_frac hp).2
  have h4 : (signT s).length ≤ 1 := by unfold signT; split <;> simp
  unfold textT
  rw [List.length_append, List.length_append, Lib.decDigits_length]
  split
  · simp; omega
  · simp only [List.length_cons]; omega
theorem text_inj {s n s' n' : Int} (h : mayT s n = true) (h' : mayT s' n' = true) (e : textT s n = textT s' n') : s = s' ∧ n = n' := by
  have := parse_back h
  rw [e, parse_back h'] at this
  have := Option.some.inj this
  exact ⟨(congrArg Prod.fst this).symm, (congrArg Prod.snd this).symm⟩
end Go.Proofs.YtfdfpgkfhcmlcaaDoor
