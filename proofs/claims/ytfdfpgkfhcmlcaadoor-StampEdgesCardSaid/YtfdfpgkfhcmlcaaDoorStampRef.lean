/- The reference's numbers as text, its MayStamp. -/
import Derived.Test.YtfdfpgkfhcmlcaaDoorPStNx
import Derived.Test.YtfdfpgkfhcmlcaaDoorStampText
set_option linter.unusedVariables false
set_option linter.unusedSimpArgs false
namespace Go.Proofs.YtfdfpgkfhcmlcaaDoor
open Go.RowKit Go.Proofs.YtfdfpgkfhcmlcaaDoorW.PrintWords Go.Proofs.YtfdfpgkfhcmlcaaDoor.PStN

theorem nums_one (x : Int) (h : 0 ≤ x ∧ x ≤ 9) : strOfNums [(wrap64 (48 + x)) % 256] = mkS [UInt8.ofNat (48 + x.toNat)] := by
  rw [w64 (by omega)]
  unfold strOfNums mkS
  simp only [List.map_cons, List.map_nil]
  congr 3
  rw [show ((48 + x) % 256).toNat = 48 + x.toNat from by omega]
theorem digits_go : ∀ (d n k : Nat) (t : List UInt8), n < 10 ^ (d + 1) → n < 1000000000000000000 → d + 1 ≤ k → t.length + d + 1 ≤ 1000000 → gripsackref1_Digits.l0 k (n : Int) (mkS t) = some (mkS (Lib.decDigits n ++ t))
  | d, n, 0, t, _, _, hk, _ => absurd hk (by omega)
  | d, n, k + 1, t, hn, hm, hk, ht => by
    rw [Lib.decDigits]
    unfold gripsackref1_Digits.l0
    by_cases h : n < 10
    · rw [dif_pos h, if_neg (by omega)]
      simp only [Option.bind_some]
      rw [nums_one (n : Int) (by omega), append_mkS, if_pos (by rw [size_mkS, size_mkS]; simp; omega)]
      simp
    · cases d with
      | zero => omega
      | succ d =>
        have e1 : Int.tmod (n : Int) 10 = ((n % 10 : Nat) : Int) := by rw [Int.tmod_eq_emod_of_nonneg (by omega)]; omega
        have e0 : Int.tdiv (n : Int) 10 = ((n / 10 : Nat) : Int) := by rw [Int.tdiv_eq_ediv_of_nonneg (by omega)]; omega
        have e2 : wrap64 (Int.tdiv (n : Int) 10) = ((n / 10 : Nat) : Int) := by rw [e0]; exact w64 (by omega)
        rw [dif_neg h, if_pos (by omega)]
        simp only [Option.bind_some]
        rw [e2, e1, nums_one _ (by omega), Int.toNat_natCast, append_mkS, if_pos (by rw [size_mkS, size_mkS]; simp; omega)]
        rw [digits_go d (n / 10) k _ (by rw [Nat.pow_succ] at hn; omega) (by omega) (by omega) (by simp; omega)]
        simp
theorem digits_f (n : Int) (k : Nat) (h0 : 0 ≤ n) (h1 : n < 1000000000000000000) (hk : 18 ≤ k) : gripsackref1_Digits.f k n = some (mkS (Lib.itoa n)) := by
  have h := digits_go 17 n.toNat k [] (by omega) (by omega) (by omega) (by simp)
  rw [Int.toNat_of_nonneg h0, List.append_nil] at h
  rw [num_itoa h0]
  exact h

theorem mayStamp_f (s n : Int) : gripsackref1_MayStamp.f s n = some (mayT s n) := by
  unfold gripsackref1_MayStamp.f
  by_cases h1 : -1099511627776 ≤ s
  · by_cases h2 : s ≤ 1099511627776
    · by_cases h3 : 0 ≤ n
      · rw [if_pos h1, if_pos h2, if_pos h3]
        congr 1
        unfold mayT
        simp [h1, h2, h3]
        omega
      · rw [if_pos h1, if_pos h2, if_neg h3]
        unfold mayT
        simp [h3]
    · rw [if_pos h1, if_neg h2]
      unfold mayT
      simp [h2]
  · rw [if_neg h1]
    unfold mayT
    simp [h1]
end Go.Proofs.YtfdfpgkfhcmlcaaDoor
