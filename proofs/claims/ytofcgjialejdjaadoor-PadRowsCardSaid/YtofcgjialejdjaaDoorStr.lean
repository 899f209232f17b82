/- Functions of Go's library as plain Lean functions, by the shelf's contracts, in the print's form. -/
import Derived.Test.YtofcgjialejdjaaDoorBase
import Derived.Test.YtofcgjialejdjaaDoorShelf
import Derived.Test.YtofcgjialejdjaaDoorWWords
namespace Go.Proofs.YtofcgjialejdjaaDoor
open Go.RowKit Go.Proofs.YtofcgjialejdjaaDoorW.PrintWords

/-- strings.Repeat, within the model's bound. -/
def strings_Repeat.f (a0 : ByteArray) (a1 : Int) : Option ByteArray := if 0 ≤ a1 ∧ a0.size * a1.toNat ≤ 140737488355328 ∧ a1 ≤ 9223372036854775807 then some ⟨(Lib.repeatL a0.data.toList a1.toNat).toArray⟩ else none
theorem strings_Repeat.calls (a0 : ByteArray) (a1 : Int) (r : ByteArray) (w : World) (h : strings_Repeat.f a0 a1 = some r) :
    Calls Tryd.prog 18 #[.string a0, .int .i64 a1] w fun e w' => e = .returned (.string r) ∧ Below w.heap.size w w' := by
  unfold strings_Repeat.f at h
  split at h
  · rename_i hc
    obtain rfl := Option.some.inj h
    obtain ⟨c, rfl⟩ := Int.eq_ofNat_of_zero_le hc.1
    exact Tryd.strings_Repeat a0 c w (by omega) (by simpa using hc.2.1)
  · exact absurd h (by simp)

/-- strings.Trim, at one ASCII byte. -/
def strings_Trim.f (a0 a1 : ByteArray) : Option ByteArray :=
  match a1.data.toList with
  | [c] => if c.toNat < 128 ∧ a0.size ≤ 9223372036854775807 then some ⟨(Lib.trimB a0.data.toList c).toArray⟩ else none
  | _ => none
theorem strings_Trim.calls (a0 a1 : ByteArray) (r : ByteArray) (w : World) (h : strings_Trim.f a0 a1 = some r) :
    Calls Tryd.prog 17 #[.string a0, .string a1] w fun e w' => e = .returned (.string r) ∧ Drawn0 w w' := by
  unfold strings_Trim.f at h
  split at h
  · rename_i c hc
    split at h
    · rename_i hd
      obtain rfl := Option.some.inj h
      obtain rfl : a1 = ⟨#[c]⟩ := by cases a1; congr 1; exact Array.toList_inj.1 hc
      refine (Tryd.strings_Trim_one a0 c hd.1 w hd.2).mono fun e w' ⟨he, hw⟩ => ⟨he, ?_⟩
      rcases hw with rfl | rfl
      · exact Drawn0.refl _
      · exact ⟨⟨1, rfl⟩⟩
    · exact absurd h (by simp)
  · exact absurd h (by simp)
end Go.Proofs.YtofcgjialejdjaaDoor
