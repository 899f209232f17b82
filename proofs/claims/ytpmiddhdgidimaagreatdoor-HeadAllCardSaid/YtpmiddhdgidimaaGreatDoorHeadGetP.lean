/- head.Get: plain lemmas. -/
import Derived.Test.YtpmiddhdgidimaaGreatDoorHeadGetA
set_option linter.unusedVariables false
set_option linter.unusedSimpArgs false
namespace Go.Proofs.YtpmiddhdgidimaaGreatDoor

theorem readH_none {S : List UInt8} (h : numAt S 100 8 = none ∨ numAt S 108 8 = none ∨ numAt S 116 8 = none ∨ numAt S 124 12 = none ∨ numAt S 136 12 = none ∨ numAt S 329 8 = none ∨ numAt S 337 8 = none) : readH S = none := by
  unfold readH
  split
  · rename_i h1 h2 h3 h4 h5 h6 h7
    rcases h with h | h | h | h | h | h | h <;> simp_all
  · rfl
theorem getT_bad {s S : List UInt8} (hS : s.take 512 = S) (h1 : 512 ≤ s.length) (hz : ¬ S.all (fun c => c == 0) = true) (h : readH S = none) : getT s = .error 4 := by
  unfold getT
  rw [hS, if_neg (by omega), if_neg hz, h]
theorem getT_read {s S : List UInt8} {h : Hd} (hS : s.take 512 = S) (h1 : 512 ≤ s.length) (hz : ¬ S.all (fun c => c == 0) = true) (hr : readH S = some h) : getT s = if putT h = S then .ok h else .error 4 := by
  unfold getT
  rw [hS, if_neg (by omega), if_neg hz, hr]
theorem trim_all {S : List UInt8} : Lib.trimB S 0 = [] ↔ S.all (fun c => c == 0) = true := by
  rw [trimB_nil, List.all_eq_true]
  simp
theorem readH_some_of {S : List UInt8} {m u g z t ma mi : Int} (h1 : numAt S 100 8 = some m) (h2 : numAt S 108 8 = some u) (h3 : numAt S 116 8 = some g) (h4 : numAt S 124 12 = some z) (h5 : numAt S 136 12 = some t) (h6 : numAt S 329 8 = some ma) (h7 : numAt S 337 8 = some mi) :
    readH S = some ⟨ahead (part S 0 100), m, u, g, z, t, S.getD 156 0, ahead (part S 157 100), ahead (part S 265 32), ahead (part S 297 32), ma, mi, ahead (part S 345 155)⟩ := by
  unfold readH
  rw [h1, h2, h3, h4, h5, h6, h7]
theorem numAt_some_range {S : List UInt8} {a w : Nat} {n : Int} (hs : a + w ≤ S.length) (hw : w = 8 ∨ w = 12) (h : numAt S a w = some n) : -9223372036854775808 ≤ n ∧ n ≤ 9223372036854775807 := by
  have := numAt_range (s := S) (a := a) (w := w) hs hw
  unfold numAt0 at this
  rw [h] at this
  exact this
theorem ahead_part_le (S : List UInt8) (a n : Nat) : (ahead (part S a n)).length ≤ n := by
  have h1 : (ahead (part S a n)).length ≤ (part S a n).length := (List.takeWhile_sublist _).length_le
  have h2 : (part S a n).length ≤ n := by unfold part; rw [List.length_take]; omega
  omega
theorem part_one (S : List UInt8) (a : Nat) (h : a < S.length) : part S a 1 = [S.getD a 0] := by
  unfold part
  rw [List.drop_eq_getElem_cons h, List.getD_eq_getElem?_getD, List.getElem?_eq_getElem h]
  rfl
theorem readH_fits {S : List UInt8} {m u g z t ma mi : Int} (hL : S.length = 512) (h1 : numAt S 100 8 = some m) (h2 : numAt S 108 8 = some u) (h3 : numAt S 116 8 = some g) (h4 : numAt S 124 12 = some z) (h5 : numAt S 136 12 = some t) (h6 : numAt S 329 8 = some ma) (h7 : numAt S 337 8 = some mi) :
    Fits ⟨ahead (part S 0 100), m, u, g, z, t, S.getD 156 0, ahead (part S 157 100), ahead (part S 265 32), ahead (part S 297 32), ma, mi, ahead (part S 345 155)⟩ := by
  refine ⟨⟨numAt_some_range (by omega) (.inl rfl) h1, numAt_some_range (by omega) (.inl rfl) h2, numAt_some_range (by omega) (.inl rfl) h3, numAt_some_range (by omega) (.inr rfl) h4, numAt_some_range (by omega) (.inr rfl) h5, numAt_some_range (by omega) (.inl rfl) h6, numAt_some_range (by omega) (.inl rfl) h7⟩, ?_, ?_, ?_, ?_, ?_⟩
  · have := ahead_part_le S 0 100; simp only; omega
  · have := ahead_part_le S 157 100; simp only; omega
  · have := ahead_part_le S 265 32; simp only; omega
  · have := ahead_part_le S 297 32; simp only; omega
  · have := ahead_part_le S 345 155; simp only; omega
end Go.Proofs.YtpmiddhdgidimaaGreatDoor
