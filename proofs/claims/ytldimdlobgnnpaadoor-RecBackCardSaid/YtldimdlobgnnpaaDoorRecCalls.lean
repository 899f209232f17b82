/- The library's functions that rec calls, by lists of bytes. -/
import Derived.Test.YtldimdlobgnnpaaDoorRecMay
import Derived.Shelf.Strings.SlTrimAscii
set_option linter.unusedVariables false
set_option linter.unusedSimpArgs false
namespace Go.Proofs.YtldimdlobgnnpaaDoor
open Go.RowKit Go.Proofs.YtldimdlobgnnpaaDoorW.PrintWords

theorem cut_any (l : List UInt8) (c : UInt8) (a b : List UInt8) (f : Bool) (h : cutAt c l = (a, b, f)) (w : World) (hG : Good w) (hs : l.length < 4294967281) :
    Calls Tryd.prog 31 #[.string (mkS l), .string ⟨#[c]⟩] w fun e w' => e = .returned (.tuple #[.string (mkS a), .string (mkS b), .bool f]) ∧ Below w.heap.size w w' := by
  have h1 := Tryd.strings_Cut_shaped (mkS l) ⟨#[c]⟩ w hG.shaped (by simpa using hs)
  have e : Lib.cut (mkS l).data.toList (⟨#[c]⟩ : ByteArray).data.toList = (a, b, f) := by rw [data_mkS, ← h]; exact cut_one c l
  rw [e] at h1
  exact h1.mono fun e w' ⟨he, n, hw⟩ => ⟨he, hw ▸ below_drewN (Below.refl _ _) n⟩
def digL : List UInt8 := [48, 49, 50, 51, 52, 53, 54, 55, 56, 57]
theorem trim_any (l t : List UInt8) (h : Lib.trimS l digL = t) (w : World) (hs : l.length ≤ 1000000) :
    Calls Tryd.prog 33 #[.string (mkS l), .string ⟨#[48, 49, 50, 51, 52, 53, 54, 55, 56, 57]⟩] w fun e w' => e = .returned (.string (mkS t)) ∧ Below w.heap.size w w' := by
  have h1 := Any.strings_Trim_laid Tryd.lays160 (by kernel_rfl) (mkS l) ⟨#[48, 49, 50, 51, 52, 53, 54, 55, 56, 57]⟩ w (by simp; omega) (by decide) (ascii_of_all (l := digL) (by decide))
  rw [data_mkS, show (⟨#[48, 49, 50, 51, 52, 53, 54, 55, 56, 57]⟩ : ByteArray).data.toList = digL from rfl, h] at h1
  exact h1
theorem suffix_any (l p : List UInt8) (b : Bool) (h : Lib.hasSuffix l p = b) (w : World) (hs : l.length ≤ 1000000) :
    Calls Tryd.prog 35 #[.string (mkS l), .string (mkS p)] w fun e w' => e = .returned (.bool b) ∧ w' = w := by
  have h1 := Tryd.strings_HasSuffix (mkS l) (mkS p) w (by simp; omega)
  rw [data_mkS, data_mkS, h] at h1
  exact h1
theorem slice_to (l : List UInt8) (j : Int) (h0 : 0 ≤ j) (h1 : j ≤ l.length) (W : World) : (Instr.slice 9 (.string (mkS l)) none (some (.int .i64 j)) none).run Tryd.prog W = .ok (.string (mkS (l.take j.toNat))) W := by
  rw [run_slice_string_h (P := Tryd.prog) W 9 (mkS l) Tryd.underlying9 .i64 j h0 (by simpa using h1), extract_mkS]
  simp
theorem slice_from (l : List UInt8) (i : Int) (h0 : 0 ≤ i) (h1 : i ≤ l.length) (W : World) : (Instr.slice 9 (.string (mkS l)) (some (.int .i64 i)) none none).run Tryd.prog W = .ok (.string (mkS (l.drop i.toNat))) W := by
  rw [run_slice_string_l (P := Tryd.prog) W 9 (mkS l) Tryd.underlying9 .i64 i h0 (by simpa using h1), extract_mkS]
  rw [List.take_of_length_le (by simp)]
theorem slice_mid (l : List UInt8) (i j : Int) (h0 : 0 ≤ i) (h1 : i ≤ j) (h2 : j ≤ l.length) (W : World) : (Instr.slice 9 (.string (mkS l)) (some (.int .i64 i)) (some (.int .i64 j)) none).run Tryd.prog W = .ok (.string (mkS ((l.take j.toNat).drop i.toNat))) W := by
  rw [run_slice_string (P := Tryd.prog) W 9 (mkS l) .i64 .i64 i j Tryd.underlying9 h0 (by omega) (by simpa using h2), extract_mkS]
  rw [List.drop_take]
end Go.Proofs.YtldimdlobgnnpaaDoor
