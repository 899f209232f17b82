/- l1.Err, and the statements' own awake. -/
import Derived.Test.YtpmiddhdgidimaaGreatDoorHeadGet
import Derived.Test.YtpmiddhdgidimaaGreatDoorHeadAwakePlain
import Derived.Test.YtpmiddhdgidimaaGreatDoorZeros
set_option linter.unusedVariables false
set_option linter.unusedSimpArgs false
namespace Go.Proofs.YtpmiddhdgidimaaGreatDoor
open Go.RowKit Go.Proofs.YtpmiddhdgidimaaGreatDoorW.PrintWords

theorem err_any (n : Int) (h : -9223372036854775808 ≤ n ∧ n ≤ 9223372036854775807) (w : World) :
    Calls Tryz.prog 13 #[.int .i64 n] w fun e w' => e = .returned (.int .i64 n) ∧ w' = w := by
  have q : IntKind.i64.wrap n = n := by rw [IntKind.wrap_i64]; omega
  go_enter Tryz.func13, Tryz.ntmps13
  go_wp2
  go_ret
  exact ⟨rfl, rfl⟩
def getV (h : Hd) (n : Int) : Value := .tuple #[.agg (hdCells h), .int .i64 n]
theorem hdA_fits : Fits hdA := ⟨hdA_ints, by decide, by decide, by decide, by decide, by decide⟩
set_option maxHeartbeats 2000000 in
set_option maxRecDepth 100000 in
theorem awake_any (w : World) (hG : Good w) : Calls Tryz.prog 4 #[] w fun e w' => e = .returned (.bool true) ∧ Below w.heap.size w w' := by
  have HG := Aside0.mk hG
  clear hG
  have HE2 := Aside0.mk (fun W => err_any 2 (by decide) W)
  have HE0 := Aside0.mk (fun W => err_any 0 (by decide) W)
  obtain ⟨B, hB⟩ : ∃ B, blockT hdA = B := ⟨_, rfl⟩
  have HPUT := Aside0.mk (fun W hGW => put_is hdA B (by rw [put_of hdA_may, hB]) W hGW hdA_fits)
  have HGET := Aside0.mk (fun W hGW => get_is B (.ok hdA) (by rw [← hB]; exact getA) (by rw [← hB, blockT_length hdA_may]; decide) W hGW)
  rw [show gotH (.ok hdA) = .tuple #[.agg #[.string ⟨#[97]⟩, .int .i64 420, .int .i64 0, .int .i64 0, .int .i64 0, .int .i64 0, .int .u8 48, .string ⟨#[]⟩, .string ⟨#[]⟩, .string ⟨#[]⟩, .int .i64 0, .int .i64 0, .string ⟨#[]⟩], .int .i64 0] from rfl] at HGET
  have HZERO := Aside0.mk (fun W hGW => get_is (List.replicate 512 0) (.error 2) get_zeros (by rw [List.length_replicate]; decide) W hGW)
  rw [show gotH (.error 2) = .tuple #[.agg #[.string ⟨#[]⟩, .int .i64 0, .int .i64 0, .int .i64 0, .int .i64 0, .int .i64 0, .int .u8 0, .string ⟨#[]⟩, .string ⟨#[]⟩, .string ⟨#[]⟩, .int .i64 0, .int .i64 0, .string ⟨#[]⟩], .int .i64 2] from rfl] at HZERO
  clear hB
  obtain ⟨wz, hm, hbz, hsz, hcv⟩ := zeros_world 512 (by decide) w
  rw [show ((512 : Nat) : Int) = 512 from rfl] at hm
  obtain ⟨Z, hZ⟩ : ∃ Z, List.replicate 512 (0 : UInt8) = Z := ⟨_, rfl⟩
  rw [hZ] at hcv HZERO
  clear hZ
  have HBZ := Aside0.mk hbz
  clear hbz hsz
  go_enter Tryz.func4, Tryz.ntmps4
  go_wp2_with fail
  refine (HZERO.out _ (HG.out.below HBZ.out)).mono ?_
  rintro e w1 ⟨rfl, hb1⟩
  have HB1 := Aside0.mk (below_next HBZ.out hb1)
  clear hb1
  go_wp2_with fail
  have HB2 := Aside0.mk (below_alloc HB1.out (.cells #[.string ⟨#[]⟩, .int .i64 0, .int .i64 0, .int .i64 0, .int .i64 0, .int .i64 0, .int .u8 0, .string ⟨#[]⟩, .string ⟨#[]⟩, .string ⟨#[]⟩, .int .i64 0, .int .i64 0, .string ⟨#[]⟩] 23))
  refine (HPUT.out _ (HG.out.below HB2.out)).mono ?_
  rintro e w2 ⟨rfl, hb2⟩
  have HB3 := Aside0.mk (below_next HB2.out hb2)
  clear hb2
  go_wp2_with fail
  refine (HGET.out _ (HG.out.below HB3.out)).mono ?_
  rintro e w3 ⟨rfl, hb3⟩
  have HB4 := Aside0.mk (below_next HB3.out hb3)
  clear hb3
  go_wp2_with fail
  refine (HE2.out _).mono ?_
  rintro e w4 ⟨rfl, hw4⟩
  rw [hw4]
  clear hw4
  go_wp2_with fail
  refine (HE0.out _).mono ?_
  rintro e w5 ⟨rfl, hw5⟩
  rw [hw5]
  clear hw5
  go_wp2
  go_ret
  exact ⟨rfl, below_alloc HB4.out _⟩
end Go.Proofs.YtpmiddhdgidimaaGreatDoor
