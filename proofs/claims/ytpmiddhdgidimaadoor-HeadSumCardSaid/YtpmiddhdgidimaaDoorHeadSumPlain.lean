/- The sum of a block, read again: the plain law. -/
import Derived.Test.YtpmiddhdgidimaaDoorHeadPlain
set_option linter.unusedVariables false
set_option linter.unusedSimpArgs false
namespace Go.Proofs.YtpmiddhdgidimaaDoor

theorem octD_front' (n : Nat) : ∀ k, octD (k + 1) n = UInt8.ofNat (48 + n / 8 ^ k % 8) :: octD k n := by
  intro k
  induction k generalizing n with
  | zero => simp [octD]
  | succ k ih =>
    rw [octD, ih (n / 8), octD, Nat.div_div_eq_div_mul, ← Nat.pow_succ', List.cons_append]
theorem octD_at (n : Nat) : ∀ (k j : Nat), j < k → (octD k n)[j]? = some (UInt8.ofNat (48 + n / 8 ^ (k - 1 - j) % 8))
  | 0, j, h => by omega
  | k + 1, 0, h => by rw [octD_front']; rfl
  | k + 1, j + 1, h => by
    rw [octD_front', List.getElem?_cons_succ, octD_at n k j (by omega), show k + 1 - 1 - (j + 1) = k - 1 - j by omega]
/-- What the loop over all bytes has. -/
def nA (B : List UInt8) (i : Nat) : Nat := sumOf (B.take (min i 148)) + 32 * (min i 156 - min i 148) + sumOf ((B.drop 156).take (i - 156))
theorem sumOf_snoc' (l : List UInt8) (c : UInt8) : sumOf (l ++ [c]) = sumOf l + c.toNat := by unfold sumOf; rw [List.foldl_append]; rfl
theorem nA_zero (B : List UInt8) : nA B 0 = 0 := by unfold nA; simp [sumOf]
theorem nA_low (B : List UInt8) (i : Nat) (h : i < 148) (hB : B.length = 512) : nA B (i + 1) = nA B i + (B.getD i 0).toNat := by
  unfold nA
  rw [show min (i + 1) 148 = i + 1 by omega, show min i 148 = i by omega, show min (i + 1) 156 = i + 1 by omega, show min i 156 = i by omega, show i + 1 - 156 = 0 by omega, show i - 156 = 0 by omega,
    List.take_succ_eq_append_getElem (show i < B.length by omega), sumOf_snoc', List.getD_eq_getElem?_getD, List.getElem?_eq_getElem (show i < B.length by omega)]
  simp only [Nat.sub_self, List.take_zero, Option.getD_some]
  omega
theorem nA_mid (B : List UInt8) (i : Nat) (h1 : 148 ≤ i) (h2 : i < 156) : nA B (i + 1) = nA B i + 32 := by
  unfold nA
  rw [show min (i + 1) 148 = 148 by omega, show min i 148 = 148 by omega, show min (i + 1) 156 = i + 1 by omega, show min i 156 = i by omega, show i + 1 - 156 = 0 by omega, show i - 156 = 0 by omega]
  omega
theorem nA_high (B : List UInt8) (i : Nat) (h1 : 156 ≤ i) (h2 : i < 512) (hB : B.length = 512) : nA B (i + 1) = nA B i + (B.getD i 0).toNat := by
  have hd : i - 156 < (B.drop 156).length := by rw [List.length_drop]; omega
  unfold nA
  rw [show min (i + 1) 148 = 148 by omega, show min i 148 = 148 by omega, show min (i + 1) 156 = 156 by omega, show min i 156 = 156 by omega, show i + 1 - 156 = (i - 156) + 1 by omega,
    List.take_succ_eq_append_getElem hd, sumOf_snoc', List.getElem_drop, List.getD_eq_getElem?_getD, List.getElem?_eq_getElem (show i < B.length by omega)]
  simp only [show 156 + (i - 156) = i by omega, Option.getD_some]
  omega
theorem nA_le (B : List UInt8) (hB : B.length = 512) : ∀ i, i ≤ 512 → nA B i ≤ 255 * i := by
  intro i
  induction i with
  | zero => intro _; rw [nA_zero]; omega
  | succ i ih =>
    intro h
    have h0 := ih (by omega)
    have hb := (B.getD i 0).toNat_lt
    by_cases h1 : i < 148
    · rw [nA_low B i h1 hB]; omega
    · by_cases h2 : i < 156
      · rw [nA_mid B i (by omega) h2]; omega
      · rw [nA_high B i (by omega) (by omega) hB]; omega
theorem nA_all {h : Hd} (m : MayH h) : nA (blockT h) 512 = sumN (blockA h) (blockB h) := by
  unfold nA sumN
  rw [show min 512 148 = 148 by decide, show min 512 156 = 156 by decide, take_block m, drop_block m, List.take_of_length_le (by rw [blockB_length m]; omega)]
  omega
/-- The digits of the sum. -/
theorem sum_digit {h : Hd} (m : MayH h) (j : Nat) (hj : j < 6) : (blockT h).getD (148 + j) 0 = UInt8.ofNat (48 + sumN (blockA h) (blockB h) / 8 ^ (5 - j) % 8) := by
  have hp := part_sum m
  have h1 : (part (blockT h) 148 8)[j]? = some (UInt8.ofNat (48 + sumN (blockA h) (blockB h) / 8 ^ (5 - j) % 8)) := by
    rw [hp]
    unfold sumT
    rw [List.getElem?_append_left (by rw [octD_length]; omega), octD_at _ 6 j hj]
  unfold part at h1
  rw [List.getElem?_take_of_lt (by omega), List.getElem?_drop] at h1
  rw [List.getD_eq_getElem?_getD, h1]; rfl
theorem sum_end {h : Hd} (m : MayH h) : (blockT h).getD 154 0 = 0 ∧ (blockT h).getD 155 0 = 32 := by
  have hp := part_sum m
  have h1 : (part (blockT h) 148 8)[6]? = some 0 := by rw [hp]; unfold sumT; rw [List.getElem?_append_right (by rw [octD_length]; omega), octD_length]; rfl
  have h2 : (part (blockT h) 148 8)[7]? = some 32 := by rw [hp]; unfold sumT; rw [List.getElem?_append_right (by rw [octD_length]; omega), octD_length]; rfl
  unfold part at h1 h2
  rw [List.getElem?_take_of_lt (by omega), List.getElem?_drop] at h1 h2
  constructor
  · rw [List.getD_eq_getElem?_getD, h1]; rfl
  · rw [List.getD_eq_getElem?_getD, h2]; rfl
theorem kA_step (N j : Nat) (hj : j < 6) : N / 8 ^ (6 - j) * 8 + N / 8 ^ (5 - j) % 8 = N / 8 ^ (6 - (j + 1)) := by
  rw [show 6 - (j + 1) = 5 - j by omega, show 6 - j = (5 - j) + 1 by omega, Nat.pow_succ, ← Nat.div_div_eq_div_mul]
  omega
theorem pre_bad {h : Hd} (hb : textOk h.pre 155 = false) : mayH h = false := by
  unfold mayH
  rw [hb]
  simp
end Go.Proofs.YtpmiddhdgidimaaDoor
