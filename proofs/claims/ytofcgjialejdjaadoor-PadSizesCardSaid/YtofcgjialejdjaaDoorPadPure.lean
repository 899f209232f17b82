/- Plain laws of layer 8: what the printed functions answer. No memory in sight. -/
import Derived.Test.YtofcgjialejdjaaDoorPPadx2
import Derived.Test.YtofcgjialejdjaaDoorPPadx3
import Derived.Test.YtofcgjialejdjaaDoorPlain
namespace Go.Proofs.YtofcgjialejdjaaDoor.Pure
open Go.RowKit Go.Proofs.YtofcgjialejdjaaDoor.PPad Go.Proofs.YtofcgjialejdjaaDoorW.PrintWords Go.Proofs.YtofcgjialejdjaaDoorW.PrintLast

/-- How many bytes 0 stand behind n bytes. -/
def gap (n : Nat) : Nat := (padSize n - n).toNat
theorem padSize_nat (n : Nat) (h : n ≤ 4611686018427387904) : padSize n = ((n + gap n : Nat) : Int) := by
  have := padSize_bd n (by omega) (by omega)
  unfold gap; omega
theorem gap_le (n : Nat) (h : n ≤ 4611686018427387904) : gap n ≤ 511 := by
  have := padSize_bd n (by omega) (by omega)
  unfold gap; omega

theorem repeat_zero (k : Nat) (h : k ≤ 140737488355328) : strings_Repeat.f ⟨#[0]⟩ (k : Int) = some (mkS (List.replicate k 0)) := by
  unfold strings_Repeat.f
  have hs : (⟨#[0]⟩ : ByteArray).size = 1 := rfl
  rw [if_pos ⟨by omega, by rw [hs]; simp; omega, by omega⟩, Int.toNat_natCast]
  show some (mkS (Lib.repeatL [0] k)) = _
  rw [repeatL_one_byte]

theorem put_eq (l : List UInt8) (h : l.length ≤ 140737488351232) : pad_Put.f (mkS l) = some (mkS (l ++ List.replicate (gap l.length) 0)) := by
  have hg := gap_le l.length (by omega)
  have hz := padSize_nat l.length (by omega)
  unfold pad_Put.f pad_Size.f
  simp only [Option.bind_some, size_mkS]
  rw [hz, show ((l.length + gap l.length : Nat) : Int) - (l.length : Int) = (gap l.length : Nat) from by omega, w64 (by omega), repeat_zero _ (by omega)]
  simp only [Option.bind_some, size_mkS, List.length_replicate]
  rw [if_pos (by omega), append_mkS]

theorem filled_eq (l : List UInt8) (n : Nat) (h : l.length + n ≤ 140737488355328) : gripsackref1_filled.f (mkS l) ((l.length + n : Nat) : Int) = some (mkS (l ++ List.replicate n 0)) := by
  unfold gripsackref1_filled.f
  rw [size_mkS, show ((l.length + n : Nat) : Int) - (l.length : Int) = (n : Nat) from by omega, w64 (by omega)]
  rw [if_pos (by omega), Int.toNat_natCast, if_pos (by omega)]
  simp only [Option.bind_some]
  have e : strOfNums (List.replicate n 0) = mkS (List.replicate n 0) := by
    unfold strOfNums mkS; rw [List.map_replicate]; rfl
  rw [e, size_mkS, List.length_replicate, if_pos (by omega), append_mkS]

theorem refpad_eq (l : List UInt8) (h : l.length ≤ 140737488351232) : gripsackref1_Pad.f (mkS l) = some (mkS (l ++ List.replicate (gap l.length) 0)) := by
  have hg := gap_le l.length (by omega)
  unfold gripsackref1_Pad.f gripsackref1_Size.f
  simp only [Option.bind_some, size_mkS]
  rw [padSize_nat l.length (by omega), filled_eq l _ (by omega)]; rfl

theorem gap_three : gap 3 = 509 := by decide

/-- Get, where what is asked for stands there and what fills it is bytes 0. -/
theorem get_ok (a b c : List UInt8) (g : Nat) (hg : g = gap b.length) (h : a.length + b.length + g + c.length ≤ 140737488355328) :
    pad_Get.f (mkS (a ++ (b ++ List.replicate g 0) ++ c)) (a.length : Int) (b.length : Int) = some (mkS b, ((a.length + b.length + g : Nat) : Int), 0) := by
  subst hg
  have hz := padSize_nat b.length (by omega)
  unfold pad_Get.f
  rw [hz]
  rw [if_neg (by simp; omega), if_neg (by simp; omega), if_neg (by simp; omega)]
  rw [extract_mkS, extract_mkS, data_mkS]
  have e1 : (((a ++ (b ++ List.replicate (gap b.length) 0) ++ c).drop (a.length : Int).toNat).take (((a.length : Int) + ((b.length + gap b.length : Nat) : Int)).toNat - (a.length : Int).toNat)) = b ++ List.replicate (gap b.length) 0 := by
    rw [Int.toNat_natCast, List.append_assoc, List.drop_left, show ((a.length : Int) + ((b.length + gap b.length : Nat) : Int)).toNat - a.length = (b ++ List.replicate (gap b.length) (0 : UInt8)).length by simp; omega, List.take_left]
  have e2 : (((a ++ (b ++ List.replicate (gap b.length) 0) ++ c).drop (a.length : Int).toNat).take (((a.length : Int) + (b.length : Int)).toNat - (a.length : Int).toNat)) = b := by
    rw [Int.toNat_natCast, List.append_assoc, List.drop_left, List.append_assoc, show ((a.length : Int) + (b.length : Int)).toNat - a.length = b.length by omega, List.take_left]
  rw [e1, e2, Int.toNat_natCast, List.drop_left, if_pos ((trimB_nil _ _).2 fun x hx => List.eq_of_mem_replicate hx)]
  simp; omega

theorem put_abc : ∃ X, pad_Put.f (⟨#[97, 98, 99]⟩ : ByteArray) = some X ∧ pad_Get.f X 0 3 = some (mkS [97, 98, 99], 512, 0) := by
  have h1 := put_eq [97, 98, 99] (by decide)
  rw [show ([97, 98, 99] : List UInt8).length = 3 from rfl, gap_three] at h1
  have h2 := get_ok [] [97, 98, 99] [] 509 (by decide) (by decide)
  simp only [List.nil_append, List.append_nil, List.length_nil] at h2
  rw [show ((0 : Nat) : Int) = 0 from rfl, show (([97, 98, 99] : List UInt8).length : Int) = 3 from rfl] at h2
  exact ⟨_, h1, h2⟩
theorem awake_true : gripsacklaw8_awake.f = some true := by
  obtain ⟨X, h1, h2⟩ := put_abc
  unfold gripsacklaw8_awake.f
  rw [h1]
  simp only [Option.bind_some]
  rw [h2]
  simp only [Option.bind_some, pad_Size.f, gripsacklaw1_Err.f, toList_mkS]
  rw [if_pos (by decide), if_pos trivial, if_pos (by decide)]
  rfl

theorem PadSizes : gripsacklaw8_PadSizes.Pure := by
  intro n b hn hb
  have h1 := wf_u32 hn
  have hz := padSize_bd n (by omega) (by omega)
  have e0 : wrap64 n = n := w64 (by omega)
  have e1 : wrap64 (n + 512) = n + 512 := w64 (by omega)
  have hm : padSize n % 512 = 0 := by unfold padSize; omega
  have e2 : (padSize n).tmod 512 = 0 := by rw [Int.tmod_eq_emod_of_nonneg (by omega)]; exact hm
  have e3 : padSize (mn b 0) = 0 := by unfold padSize mn; split <;> omega
  have e4 : padSize (padSize n) = padSize n := by
    have : ∀ k : Int, 0 ≤ k → k ≤ 4611686018427387904 → k % 512 = 0 → padSize k = k := by intro k _ _ _; unfold padSize; omega
    exact this _ (by omega) (by omega) hm
  have e5 : padSize 4611686018427387904 = 4611686018427387904 := by decide
  have e6 : padSize (mx b 4611686018427387904) = 4611686018427387904 := by unfold padSize mx; split <;> omega
  unfold gripsacklaw8_PadSizes.f
  simp only [pad_Size.f, Option.bind_some, e0, e1, e2, e3, e4, e5, e6, if_true, awake_true]
  rw [if_pos (by omega), if_pos (by omega)]
end Go.Proofs.YtofcgjialejdjaaDoor.Pure
