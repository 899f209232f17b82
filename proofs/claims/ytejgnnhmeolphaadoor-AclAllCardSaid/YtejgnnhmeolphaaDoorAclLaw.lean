/- The statements' own helper awake. -/
import Derived.Test.YtejgnnhmeolphaaDoorAclParse
set_option linter.unusedVariables false
set_option linter.unusedSimpArgs false
namespace Go.Proofs.YtejgnnhmeolphaaDoor
open Go.RowKit Go.Proofs.YtejgnnhmeolphaaDoorW.PrintWords Go.Proofs.YtejgnnhmeolphaaDoor.PAclR

def awakeT : List UInt8 := [117, 58, 58, 114, 119, 45, 44, 103, 58, 58, 114, 45, 45, 44, 111, 58, 58, 114, 45, 45]
def awakeL : List Ace := [⟨1, 0, 6⟩, ⟨3, 0, 4⟩, ⟨6, 0, 4⟩]
theorem awake_from : acl_From.f 420 = some awakeL := by rfl
theorem awake_join : Lib.join (awakeL.map aceText) [44] = awakeT := by decide +kernel
theorem awake_parse : parseL awakeT = some awakeL := by kernel_rfl
theorem awake_str : mkS awakeT = ⟨#[117, 58, 58, 114, 119, 45, 44, 103, 58, 58, 114, 45, 45, 44, 111, 58, 58, 114, 45, 45]⟩ := rfl
theorem awake_may : mayL awakeL = true := by kernel_rfl
theorem awake_mode : modeL awakeL = 420 := by kernel_rfl
/-- Parse of the example's text. -/
theorem awake_parsed (w : World) (hG : Good w) : Calls Tryd.prog 9 #[.string ⟨#[117, 58, 58, 114, 119, 45, 44, 103, 58, 58, 114, 45, 45, 44, 111, 58, 58, 114, 45, 45]⟩] w fun e w' =>
    ∃ A c, e = .returned (.tuple #[.slice A 3 c, .bool true]) ∧ 3 ≤ c ∧ Kd.C k27 w' A 3 awakeL ∧ Below w.heap.size w w' := by
  rw [← awake_str]
  refine (parse_any awakeT w hG (by decide)).mono fun e w' h => ?_
  unfold ParseDone at h
  rw [awake_parse] at h
  obtain ⟨⟨v, rfl, hR⟩, hb⟩ := h
  obtain ⟨A, c, rfl, hc, hC⟩ := Kd.R_reads hR
  exact ⟨A, c, rfl, hc, hC, hb⟩
set_option maxHeartbeats 1000000 in
theorem awake_any (w : World) (hG : Good w) : Calls Tryd.prog 11 #[] w fun e w' => e = .returned (.bool true) ∧ Below w.heap.size w w' := by
  have HG := Aside0.mk hG
  clear hG
  go_enter Tryd.func11, Tryd.ntmps11
  go_wp2_with fail
  refine (awake_parsed _ HG.out).mono ?_
  rintro e w1 ⟨A, c, rfl, hc, hC, hb1⟩
  have HC := Aside0.mk hC
  have HB1 := Aside0.mk hb1
  clear hC hb1
  go_wp2_with fail
  refine (acl_From.calls 420 _ _ awake_from).mono ?_
  rintro e w2 ⟨v, rfl, hR, hb2⟩
  obtain ⟨A2, c2, rfl, hc2, hC2⟩ := Kd.R_reads hR
  have HC2 := Aside0.mk hC2
  have HB2 := Aside0.mk (below_next HB1.out hb2)
  have HC3 := Aside0.mk (Kd.C_below HC.out hb2)
  clear hC2 hR
  have ht := aclText_any A2 c2 awakeL w2 (HG.out.below HB2.out) HC2.out hc2 (may_parts awake_may).2.1 (may_parts awake_may).1 (may_parts awake_may).2.2
  rw [awake_join, awake_str] at ht
  go_wp2_with fail
  refine ht.mono ?_
  rintro e w3 ⟨rfl, hb3⟩
  have HB3 := Aside0.mk (below_next HB2.out hb3)
  have HC4 := Aside0.mk (Kd.C_below HC3.out hb3)
  clear ht hb3 hb2
  go_wp2_with fail
  have hm := mode_any A c awakeL w3 HC4.out hc (by decide) (by decide +kernel) (by decide +kernel) (by decide +kernel) (by decide +kernel)
  rw [awake_mode] at hm
  refine hm.mono ?_
  rintro e w4 ⟨rfl, hb4⟩
  go_wp2_with fail
  go_ret
  exact ⟨rfl, below_next HB3.out hb4⟩
end Go.Proofs.YtejgnnhmeolphaaDoor
