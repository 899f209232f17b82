/- The statements' own helper awake, and the number of an error. -/
import Derived.Test.YtldimdlobgnnpaaDoorRecAll
set_option linter.unusedVariables false
set_option linter.unusedSimpArgs false
namespace Go.Proofs.YtldimdlobgnnpaaDoor
open Go.RowKit Go.Proofs.YtldimdlobgnnpaaDoorW.PrintWords

theorem err_any (n : Int) (w : World) : Calls Tryd.prog 11 #[.int .i64 n] w fun e w' => e = .returned (.int .i64 n) ∧ w' = w := by
  go_enter Tryd.func11, Tryd.ntmps11
  go_wp2
  go_ret
  exact ⟨rfl, rfl⟩
def awakeT : List UInt8 := [54, 32, 97, 61, 98, 10]
theorem awake_read : readL awakeT = some ([97], [98], 6) := by kernel_rfl
theorem awake_put : putR [97] [98] = awakeT := by kernel_rfl
theorem awake_str : mkS awakeT = ⟨#[54, 32, 97, 61, 98, 10]⟩ := rfl
theorem awake_got (w : World) (hG : Good w) : Calls Tryd.prog 10 #[.string ⟨#[54, 32, 97, 61, 98, 10]⟩, .int .i64 0] w fun e w' => e = .returned (.tuple #[.agg #[.string ⟨#[97]⟩, .string ⟨#[98]⟩], .int .i64 6, .int .i64 0]) ∧ Below w.heap.size w w' :=
  get_ok awakeT [97] [98] 0 6 w hG (by decide) (by decide) awake_read
theorem awake_putted (w : World) (hG : Good w) : Calls Tryd.prog 8 #[.agg #[.string ⟨#[97]⟩, .string ⟨#[98]⟩]] w fun e w' => e = .returned (.string ⟨#[54, 32, 97, 61, 98, 10]⟩) ∧ Below w.heap.size w w' :=
  putR_is [97] [98] awakeT awake_put w hG (by decide)
set_option maxHeartbeats 1000000 in
theorem awake_any (w : World) (hG : Good w) : Calls Tryd.prog 13 #[] w fun e w' => e = .returned (.bool true) ∧ Below w.heap.size w w' := by
  have HG := Aside0.mk hG
  clear hG
  go_enter Tryd.func13, Tryd.ntmps13
  go_wp2_with fail
  refine (awake_got _ HG.out).mono ?_
  rintro e w1 ⟨rfl, hb1⟩
  have HB2 := Aside0.mk (below_alloc hb1 (.cells #[.string ⟨#[97]⟩, .string ⟨#[98]⟩] 25))
  have k2 := heap_alloc_new w1 (.cells #[.string ⟨#[97]⟩, .string ⟨#[98]⟩] 25)
  go_wp2_with (first
    | (go_at_call 8; refine (awake_putted _ (HG.out.below HB2.out)).mono ?_; rintro e w3 ⟨rfl, hb3⟩; have k3 := (hb3.block _ (blk_lt k2)).trans k2; have d0 := blk_cell k3 0)
    | (go_at_call 11; refine (err_any _ _).mono ?_; rintro e w4 ⟨rfl, rfl⟩))
  go_ret
  exact ⟨rfl, below_next HB2.out hb3⟩
end Go.Proofs.YtldimdlobgnnpaaDoor
