/- math.IsNaN, IsInf, Abs, Floor, as this program has them. -/
import Derived.Test.YtfdfpgkfhcmlcaaDoorStampAwake
import Derived.Test.YtfdfpgkfhcmlcaaDoorFloat
import Derived.Laws.Externs
set_option linter.unusedVariables false
set_option linter.unusedSimpArgs false
namespace Go.Proofs.YtfdfpgkfhcmlcaaDoor
open Go.RowKit Go.Proofs.YtfdfpgkfhcmlcaaDoorW.PrintWords Ieee

@[go_sem] theorem ext_bits (b : Nat) (w : World) : (callFunc 54 #[.float .f64 b]).run Tryd.prog w = .ok (.value (.int .u64 b)) w := by
  rw [run_callFunc_extern Tryd.func54 (by kernel_rfl) (by kernel_rfl) (by kernel_rfl) (e := Extern.MathFloatBits.float64bits) (by kernel_rfl)]
  rfl
@[go_sem] theorem ext_from (n : Int) (w : World) : (callFunc 53 #[.int .u64 n]).run Tryd.prog w = .ok (.value (.float .f64 n.toNat)) w := by
  rw [run_callFunc_extern Tryd.func53 (by kernel_rfl) (by kernel_rfl) (by kernel_rfl) (e := Extern.MathFloatBits.float64frombits) (by kernel_rfl)]
  rfl
theorem ext_floor (b : Nat) (s : Bool) (m : Nat) (p : Int) (h : double.read b = .number s m p) (hp : -1074 ≤ p) (w : World) : (callFunc 55 #[.float .f64 b]).run Tryd.prog w = .ok (.value (.float .f64 (cF s m p))) w := by
  rw [run_callFunc_extern Tryd.func55 (by kernel_rfl) (by kernel_rfl) (by kernel_rfl) (e := Extern.MathFloor.toIntegral "math.archFloor" .down) (by kernel_rfl)]
  have h2 : FloatKind.f64.decode b = .number s m p := h
  have e : cF s m p = FloatKind.f64.encode ((Datum.number s m p).integral .down) := by rw [floor_num s m p hp]; rfl
  rw [e]
  have key : ∀ (h1 : Nat → Sem Value) (h2 : ∀ a : Array Value, Sem Value), Extern.MathFloor.toIntegral.match_2 (fun _ => Sem Value) #[Value.float .f64 b] h1 h2 = h1 b := fun _ _ => rfl
  delta Extern.MathFloor.toIntegral
  rw [key]
  rw [h2]
  rfl
theorem bits_and (b : Nat) (hb : b < 18446744073709551616) : (bits .andNot .u64 (b : Int) 9223372036854775808).toNat = b % 9223372036854775808 := by
  rw [u64_andNot _ _ (by omega) (by omega) (by omega) (by omega)]
  simp only [Int.toNat_natCast]
  exact read_bits b
theorem isNaN_any (b : Nat) (w : World) : Calls Tryd.prog 33 #[.float .f64 b] w fun e w' => e = .returned (.bool (FloatKind.f64.format.order b b != some .eq)) ∧ w' = w := by
  go_enter Tryd.func33, Tryd.ntmps33
  go_wp2_with fail
  go_ret
  exact ⟨rfl, rfl⟩
theorem abs_any (b : Nat) (hb : b < 18446744073709551616) (w : World) : Calls Tryd.prog 35 #[.float .f64 b] w fun e w' => e = .returned (.float .f64 (b % 9223372036854775808)) ∧ w' = w := by
  have h := bits_and b hb
  go_enter Tryd.func35, Tryd.ntmps35
  go_wp2_with fail
  go_ret
  exact ⟨rfl, rfl⟩
theorem isInf_any (b : Nat) (hb : b < 18446744073709551616) (w : World) : Calls Tryd.prog 34 #[.float .f64 b, .int .i64 0] w fun e w' => e = .returned (.bool (FloatKind.f64.format.order (b % 9223372036854775808) 9218868437227405311 == some .gt)) ∧ w' = w := by
  go_enter Tryd.func34, Tryd.ntmps34
  go_wp2_with (go_at_call 35; refine (abs_any b hb _).mono ?_; rintro e w1 ⟨rfl, rfl⟩)
  go_ret
  exact ⟨rfl, rfl⟩
theorem floor_any (b : Nat) (s : Bool) (m : Nat) (p : Int) (h : double.read b = .number s m p) (hp : -1074 ≤ p) (w : World) : Calls Tryd.prog 36 #[.float .f64 b] w fun e w' => e = .returned (.float .f64 (cF s m p)) ∧ w' = w := by
  have h1 := fun W => ext_floor b s m p h hp W
  go_enter Tryd.func36, Tryd.ntmps36
  go_wp2_with fail
  go_ret
  exact ⟨rfl, rfl⟩
end Go.Proofs.YtfdfpgkfhcmlcaaDoor
