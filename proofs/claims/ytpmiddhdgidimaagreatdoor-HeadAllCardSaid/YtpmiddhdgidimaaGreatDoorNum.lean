/- Plain lemmas: numbers as text, and texts cut at a byte. No program in sight. -/
import Derived.Lib.ItoaLen
import Derived.Lib.AtoiAll
import Derived.Lib.IndexMore
import Derived.Lib.SlTrimSet
import Derived.Lib.Strings
set_option linter.unusedVariables false
set_option linter.unusedSimpArgs false
namespace Go.Proofs.YtpmiddhdgidimaaGreatDoor

theorem num_digit (u : Nat) : ∀ x ∈ Lib.decDigits u, 48 ≤ x.toNat ∧ x.toNat ≤ 57 := by
  induction u using Nat.strongRecOn with
  | ind u ih =>
    intro x hx
    rw [Lib.decDigits] at hx
    split at hx
    · rename_i h
      rw [List.mem_singleton] at hx
      subst hx
      simp; omega
    · rename_i h
      rcases List.mem_append.1 hx with hx | hx
      · exact ih (u / 10) (by omega) x hx
      · rw [List.mem_singleton] at hx
        subst hx
        simp; omega
theorem num_snoc (c : UInt8) : ∀ (l : List UInt8) (acc : Nat), Lib.parseUint10 acc (l ++ [c]) = match Lib.parseUint10 acc l with | .ok v => Lib.parseUint10 v [c] | e => e
  | [], acc => rfl
  | b :: l, acc => by
    simp only [List.cons_append, Lib.parseUint10]
    split
    · split
      · rfl
      · split
        · rfl
        · exact num_snoc c l _
    · rfl
theorem num_parse (u : Nat) (hu : u < 1000000000000000000) : Lib.parseUint10 0 (Lib.decDigits u) = .ok u := by
  induction u using Nat.strongRecOn with
  | ind u ih =>
    rw [Lib.decDigits]
    split
    · rename_i h
      simp only [Lib.parseUint10]
      rw [if_pos (by simp; omega), if_neg (by omega), if_neg (by simp; omega)]
      simp; omega
    · rename_i h
      rw [num_snoc, ih (u / 10) (by omega) (by omega)]
      simp only [Lib.parseUint10]
      rw [if_pos (by simp; omega), if_neg (by omega), if_neg (by simp; omega)]
      simp; omega
theorem num_ne (u : Nat) : Lib.decDigits u ≠ [] := by
  rw [Lib.decDigits]
  split <;> simp
theorem num_inj {a b : Nat} (ha : a < 1000000000000000000) (hb : b < 1000000000000000000) (h : Lib.decDigits a = Lib.decDigits b) : a = b := by
  have h1 := num_parse a ha
  rw [h, num_parse b hb] at h1
  injection h1 with h1
  exact h1.symm
theorem num_itoa {n : Int} (h : 0 ≤ n) : Lib.itoa n = Lib.decDigits n.toNat := by unfold Lib.itoa; rw [if_neg (by omega)]
/-- Digits alone are read as their number. -/
theorem num_read {l : List UInt8} {n : Nat} (hne : l ≠ []) (hd : ∀ x ∈ l, 48 ≤ x.toNat ∧ x.toNat ≤ 57) (h : Lib.parseUint10 0 l = .ok n) (hn : n < 9223372036854775808) : Lib.atoiAll l = .ok (n : Int) := by
  cases l with
  | nil => exact absurd rfl hne
  | cons c r =>
    have hc := hd c (by simp)
    have hne : ¬ (c.toNat = 43 ∨ c.toNat = 45) := by omega
    have hne2 : ¬ c.toNat = 45 := by omega
    simp only [Lib.atoiAll]
    rw [if_neg hne]
    unfold Lib.parseMag
    rw [if_neg (by simp), h]
    simp only
    rw [if_neg (by omega), if_neg (by omega), if_neg hne2]
theorem num_atoi (n : Nat) (h1 : n < 1000000000000000000) : Lib.atoiAll (Lib.decDigits n) = .ok (n : Int) :=
  num_read (num_ne n) (num_digit n) (num_parse n h1) (by omega)
/-- A number's first digit is none of nought, but that of nought. -/
theorem num_head (u : Nat) (h : 0 < u) : ∃ c r, Lib.decDigits u = c :: r ∧ 49 ≤ c.toNat := by
  induction u using Nat.strongRecOn with
  | ind u ih =>
    rw [Lib.decDigits]
    split
    · rename_i h1
      exact ⟨_, _, rfl, by simp; omega⟩
    · rename_i h1
      obtain ⟨c, r, e, hc⟩ := ih (u / 10) (by omega) (by omega)
      exact ⟨c, r ++ [UInt8.ofNat (48 + u % 10)], by rw [e]; rfl, hc⟩

/-- The number that digits say. -/
def valOf (acc : Nat) (l : List UInt8) : Nat := l.foldl (fun a c => a * 10 + (c.toNat - 48)) acc
theorem valOf_dec (u : Nat) : valOf 0 (Lib.decDigits u) = u := by
  induction u using Nat.strongRecOn with
  | ind u ih =>
    rw [Lib.decDigits]
    split
    · rename_i h; simp [valOf]; omega
    · rename_i h
      have := ih (u / 10) (by omega)
      unfold valOf at this ⊢
      rw [List.foldl_append, this]
      simp
      omega
theorem valOf_ge : ∀ (l : List UInt8) (acc : Nat), acc ≤ valOf acc l
  | [], acc => Nat.le_refl _
  | c :: l, acc => by
    have := valOf_ge l (acc * 10 + (c.toNat - 48))
    show acc ≤ valOf (acc * 10 + (c.toNat - 48)) l
    omega
theorem nDigits_mono : ∀ (a b : Nat), a ≤ b → Lib.nDigits a ≤ Lib.nDigits b := by
  intro a
  induction a using Nat.strongRecOn with
  | ind a ih =>
    intro b h
    by_cases h1 : a < 10
    · rw [Lib.nDigits_small h1]; exact Lib.nDigits_pos b
    · rw [Lib.nDigits_big h1, Lib.nDigits_big (show ¬ b < 10 by omega)]
      have := ih (a / 10) (by omega) (b / 10) (by omega)
      omega
theorem nDigits_next (a : Nat) : Lib.nDigits (a + 1) ≤ Lib.nDigits a + 1 := by
  induction a using Nat.strongRecOn with
  | ind a ih =>
    by_cases h1 : a + 1 < 10
    · rw [Lib.nDigits_small h1]; omega
    · rw [Lib.nDigits_big h1]
      by_cases h2 : a < 10
      · have : (a + 1) / 10 = 1 := by omega
        rw [this, Lib.nDigits_small (by omega)]; have := Lib.nDigits_pos a; omega
      · rw [Lib.nDigits_big h2]
        by_cases h3 : (a + 1) / 10 = a / 10
        · rw [h3]; omega
        · have e : (a + 1) / 10 = a / 10 + 1 := by omega
          rw [e]
          have := ih (a / 10) (by omega)
          omega

/-- A text cut at the first of a byte. -/
def cutAt (c : UInt8) : List UInt8 → List UInt8 × List UInt8 × Bool
  | [] => ([], [], false)
  | b :: l => if b = c then ([], l, true) else (b :: (cutAt c l).1, (cutAt c l).2)
theorem cutAt_miss (c : UInt8) : ∀ l : List UInt8, c ∉ l → cutAt c l = (l, [], false)
  | [], _ => rfl
  | b :: l, h => by
    have hb : b ≠ c := fun e => h (e ▸ List.mem_cons_self)
    have hl : c ∉ l := fun e => h (List.mem_cons_of_mem _ e)
    simp only [cutAt]
    rw [if_neg hb, cutAt_miss c l hl]
theorem cutAt_hit (c : UInt8) : ∀ a r : List UInt8, c ∉ a → cutAt c (a ++ c :: r) = (a, r, true)
  | [], r, _ => by simp [cutAt]
  | b :: a, r, h => by
    have hb : b ≠ c := fun e => h (e ▸ List.mem_cons_self)
    have ha : c ∉ a := fun e => h (List.mem_cons_of_mem _ e)
    simp only [List.cons_append, cutAt]
    rw [if_neg hb, cutAt_hit c a r ha]
theorem cutAt_spec (c : UInt8) (l : List UInt8) : ((cutAt c l).2.2 = true ∧ l = (cutAt c l).1 ++ c :: (cutAt c l).2.1 ∧ c ∉ (cutAt c l).1) ∨ ((cutAt c l).2.2 = false ∧ (cutAt c l).1 = l ∧ (cutAt c l).2.1 = [] ∧ c ∉ l) := by
  induction l with
  | nil => exact .inr ⟨rfl, rfl, rfl, by simp⟩
  | cons b l ih =>
    by_cases h : b = c
    · subst h
      exact .inl (by simp [cutAt])
    · have e : cutAt c (b :: l) = (b :: (cutAt c l).1, (cutAt c l).2) := by simp only [cutAt]; rw [if_neg h]
      rw [e]
      rcases ih with ⟨h1, h2, h3⟩ | ⟨h1, h2, h3, h4⟩
      · refine .inl ⟨h1, by simp only [List.cons_append]; rw [← h2], ?_⟩
        simp only [List.mem_cons, not_or]
        exact ⟨fun e => h e.symm, h3⟩
      · refine .inr ⟨h1, by simp only; rw [h2], h3, ?_⟩
        simp only [List.mem_cons, not_or]
        exact ⟨fun e => h e.symm, h4⟩
theorem index_cons_ne (c b : UInt8) (l : List UInt8) (h : b ≠ c) : Lib.index (b :: l) [c] = if Lib.index l [c] == -1 then -1 else Lib.index l [c] + 1 := by
  have hp : ([c] : List UInt8).isPrefixOf (b :: l) = false := by simp [List.isPrefixOf, Ne.symm h]
  rw [Lib.index, hp]; simp
theorem cut_one (c : UInt8) : ∀ l : List UInt8, Lib.cut l [c] = cutAt c l
  | [] => by simp [Lib.cut, Lib.index, cutAt]
  | b :: l => by
    by_cases h : b = c
    · subst h
      have : Lib.index (b :: l) [b] = 0 := by rw [Lib.index]; simp [List.isPrefixOf]
      simp [Lib.cut, this, cutAt]
    · have ih := cut_one c l
      simp only [cutAt]
      rw [if_neg h, ← ih]
      have hge := Lib.index_ge l [c]
      unfold Lib.cut
      rw [index_cons_ne c b l h]
      by_cases hm : Lib.index l [c] = -1
      · rw [hm]; simp
      · obtain ⟨j, hj⟩ : ∃ j : Nat, Lib.index l [c] = j := ⟨(Lib.index l [c]).toNat, by omega⟩
        rw [hj]
        have e2 : (((j : Nat) : Int) == -1) = false := by rw [beq_eq_false_iff_ne]; omega
        rw [e2]
        simp only [Bool.false_eq_true, if_false]
        rw [if_pos (show (0 : Int) ≤ (j : Int) + 1 by omega), if_pos (by omega), show ((j : Int) + 1).toNat = j + 1 by omega, Int.toNat_natCast]
        simp [List.take_succ_cons, Nat.add_right_comm]
/-- What is left of a text whose bytes at both ends that are of a set are cut off is nothing just if all are of the set. -/
theorem trimS_nil (l cs : List UInt8) : Lib.trimS l cs = [] ↔ ∀ x ∈ l, cs.contains x = true := by
  have dn : ∀ (p : UInt8 → Bool) (l : List UInt8), l.dropWhile p = [] ↔ ∀ x ∈ l, p x = true := by
    intro p l
    induction l with
    | nil => simp
    | cons a l ih =>
      rw [List.dropWhile_cons]
      split
      · rename_i h; rw [ih]; simp [h]
      · rename_i h; simp [h]
  have dh : ∀ (p : UInt8 → Bool) (l : List UInt8) (y : UInt8) (t : List UInt8), l.dropWhile p = y :: t → p y = false := by
    intro p l
    induction l with
    | nil => intro y t h; simp at h
    | cons a l ih =>
      intro y t h
      rw [List.dropWhile_cons] at h
      split at h
      · exact ih y t h
      · rename_i hp
        obtain ⟨rfl, _⟩ := List.cons.inj h
        simpa using hp
  unfold Lib.trimS Lib.trimLeftS Lib.trimRightS
  rw [dn]
  constructor
  · intro h
    cases h3 : l.reverse.dropWhile (cs.contains ·) with
    | nil =>
      have h4 := (dn _ _).1 h3
      intro x hx
      exact h4 x (by simpa using hx)
    | cons y t =>
      exfalso
      have h5 := dh _ _ _ _ h3
      have h6 := h y (by rw [h3]; simp)
      rw [h5] at h6
      exact absurd h6 (by simp)
  · intro h x hx
    have : x ∈ l.reverse := (List.dropWhile_sublist _).subset (by simpa using hx)
    exact h x (by simpa using this)
theorem digits_set (x : UInt8) : ([48, 49, 50, 51, 52, 53, 54, 55, 56, 57] : List UInt8).contains x = true ↔ 48 ≤ x.toNat ∧ x.toNat ≤ 57 := by
  constructor
  · intro h
    simp only [List.contains_eq_mem, List.mem_cons, List.not_mem_nil, or_false, decide_eq_true_eq] at h
    rcases h with rfl | rfl | rfl | rfl | rfl | rfl | rfl | rfl | rfl | rfl <;> decide
  · intro h
    have : x.toNat = 48 ∨ x.toNat = 49 ∨ x.toNat = 50 ∨ x.toNat = 51 ∨ x.toNat = 52 ∨ x.toNat = 53 ∨ x.toNat = 54 ∨ x.toNat = 55 ∨ x.toNat = 56 ∨ x.toNat = 57 := by omega
    have e : ∀ n : Nat, n < 256 → x.toNat = n → x = UInt8.ofNat n := fun n _ h => by rw [← h]; simp
    rcases this with h | h | h | h | h | h | h | h | h | h <;> (rw [e _ (by decide) h]; decide)
end Go.Proofs.YtpmiddhdgidimaaGreatDoor
