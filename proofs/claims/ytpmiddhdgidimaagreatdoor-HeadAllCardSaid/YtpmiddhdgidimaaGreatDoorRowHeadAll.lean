/- HeadAll: whatever the input, the call returns true and leaves what came in as it was; by the walk of the law and the given tie. Conditions: those of the given row alone. -/
import Derived.Test.YtpmiddhdgidimaaGreatDoorCards
import Derived.Test.YtpmiddhdgidimaaGreatDoorTie
import Derived.Test.YtpmiddhdgidimaaGreatDoorAllHead
import Derived.WalkKit
import Derived.Test.YtpmiddhdgidimaaGreatDoorAllHead
import Derived.Deep.DeepWitnessRowRef
import Derived.Lay
import Derived.ProofKit
import Derived.OpenShut
import Derived.ShutString
import Derived.ChangeOld
import Derived.Below
import Derived.SizedLaws
import Derived.Deep.DeepHandedRow
import Derived.Lib.LaidTab
import Derived.Lib.SmallJoins
namespace Go.Proofs.YtpmiddhdgidimaaGreatDoor.headAll
open Go.ChangeShapes Go.WideShapes Go.ChangeAt Go.RowKit
open Go.ChangeMaps (open_string shut_string)
set_option linter.unusedVariables false
set_option linter.unusedSimpArgs false
theorem own : ownKnob Tryz.prog.godebug = none := by kernel_rfl
noncomputable def laidWorld (os : Os) : World := World.laidAll Tryz.prog os Rows.headAllRow.laid
set_option maxRecDepth 100000 in
theorem laid_met (os : Os) : laidMet Tryz.prog Rows.headAllRow.laid ((laidWorld os).forCall (fun _ _ => 0) ⟨#[], #[.agg #[.string ByteArray.empty, .int .i64 0, .int .i64 0, .int .i64 0, .int .i64 0, .int .i64 0, .int .u8 0, .string ByteArray.empty, .string ByteArray.empty, .string ByteArray.empty, .int .i64 0, .int .i64 0, .string ByteArray.empty], .string ByteArray.empty, .string ByteArray.empty], []⟩).memory :=
  laidMet_laidAll _ (by kernel_rfl) (by kernel_rfl)
theorem reads (os : Os) {H : Type} (enc : TypeId × Value → H) : ∃ places, DataW.whole enc Tryz.prog ((laidWorld os).forCall (fun _ _ => 0) ⟨#[], #[.agg #[.string ByteArray.empty, .int .i64 0, .int .i64 0, .int .i64 0, .int .i64 0, .int .i64 0, .int .u8 0, .string ByteArray.empty, .string ByteArray.empty, .string ByteArray.empty, .int .i64 0, .int .i64 0, .string ByteArray.empty], .string ByteArray.empty, .string ByteArray.empty], []⟩).memory Tryz.f3.params.toList Rows.headAllSpec.vars false (#[.agg #[.string ByteArray.empty, .int .i64 0, .int .i64 0, .int .i64 0, .int .i64 0, .int .i64 0, .int .u8 0, .string ByteArray.empty, .string ByteArray.empty, .string ByteArray.empty, .int .i64 0, .int .i64 0, .string ByteArray.empty], .string ByteArray.empty, .string ByteArray.empty] : Array Value).toList 8 = some ([.agg [.lit (.string []), .lit (.int .i64 0), .lit (.int .i64 0), .lit (.int .i64 0), .lit (.int .i64 0), .lit (.int .i64 0), .lit (.int .u8 0), .lit (.string []), .lit (.string []), .lit (.string []), .lit (.int .i64 0), .lit (.int .i64 0), .lit (.string [])], .lit (.string []), .lit (.string [])], [], places) :=
  ⟨[], by kernel_rfl⟩
set_option maxRecDepth 100000 in
theorem lifted (os : Os) (started : os.Started) (H : Type) (enc : TypeId × Value → H) (F : Stop.Interp) :
    ReturnsInHanded {} Tryz.checked os 3 .any ((OpenSpec.ofChange Rows.headAllSpec).preRow enc Tryz.prog Tryz.f3 Rows.headAllRow.domain false Rows.headAllRow.laid) (((OpenSpec.ofChange Rows.headAllSpec).at F).post enc Tryz.prog Tryz.f3 false true false false) := by
  obtain ⟨places, hx⟩ := reads os enc
  refine returnsInHanded_of_row (C := Tryz.checked) (s := (OpenSpec.ofChange Rows.headAllSpec)) own started (by kernel_rfl) Tryz.func3
    (witness_row_atRef (enc := enc) (C := Tryz.checked) false (laidWorld os) #[.agg #[.string ByteArray.empty, .int .i64 0, .int .i64 0, .int .i64 0, .int .i64 0, .int .i64 0, .int .u8 0, .string ByteArray.empty, .string ByteArray.empty, .string ByteArray.empty, .int .i64 0, .int .i64 0, .string ByteArray.empty], .string ByteArray.empty, .string ByteArray.empty] rfl (by kernel_rfl) (by kernel_rfl) (by kernel_rfl)
      (OpenSpec.preRow_of_cond 8 hx (by kernel_rfl) (fun k hk => by cases hk) (by kernel_rfl) (laid_met os))) ?_
  intro W base args ds gs before hval0 hW _ hcond hsz0 hL hSh _
  have hsz : (DataW.weightsEach Tryz.prog (Tryz.f3.params.toList ++ Rows.headAllSpec.plain.varTypes Tryz.prog) (ds ++ gs)).all (· ≤ reachBytes) = true := hsz0
  have hval : ∀ (j : Nat) t v, Tryz.f3.params[j]? = some t → args[j]? = some v → Value.okWide Tryz.prog W .any base t v := hval0
  have hW' := hW
  obtain ⟨p, q, hA0, hV, rfl, hfz, hnd⟩ := hW
  have hA : DataW.TrodAll enc Tryz.prog W 0 (fun _ => true) true Tryz.f3.params.toList args.toList ds p := hA0
  rw [Tryz.params3] at hA hval hsz
  obtain ⟨v0, vs0, d0, ds0, p0, q0, hargs, rfl, rfl, h0, r0⟩ := trodAll_cons hA
  obtain ⟨v1, vs1, d1, ds1, p1, q1, rfl, rfl, rfl, h1, r1⟩ := trodAll_cons r0
  obtain ⟨v2, vs2, d2, ds2, p2, q2, rfl, rfl, rfl, h2, r2⟩ := trodAll_cons r1
  obtain ⟨rfl, rfl, rfl⟩ := trodAll_nil r2
  obtain rfl : args = #[v0, v1, v2] := by cases args; simp_all
  obtain ⟨rfl, rfl⟩ := trodVars_none hV
  obtain ⟨c0_0, c0_1, c0_2, c0_3, c0_4, c0_5, c0_6, c0_7, c0_8, c0_9, c0_10, c0_11, c0_12, x0_0, x0_1, x0_2, x0_3, x0_4, x0_5, x0_6, x0_7, x0_8, x0_9, x0_10, x0_11, x0_12, m0, rfl, rfl, rfl, hy0_0, hy0_1, hy0_2, hy0_3, hy0_4, hy0_5, hy0_6, hy0_7, hy0_8, hy0_9, hy0_10, hy0_11, hy0_12⟩ := open_agg13 Tryz.underlying23 (by kernel_rfl) (by kernel_rfl) (hval 0 23 v0 rfl rfl) h0
  obtain ⟨a0_0, e0_0, rfl, w0_0⟩ := DataW.trod_string Tryz.underlying9 hy0_0
  have z0_0 : a0_0.size ≤ 9223372036854775807 := by unfold maxLen at w0_0; exact w0_0
  simp at e0_0
  subst e0_0
  obtain ⟨a0_1, e0_1, rfl, w0_1⟩ := DataW.trod_int Tryz.underlying3 hy0_1
  have z0_1 := w0_1
  simp at e0_1
  subst e0_1
  obtain ⟨a0_2, e0_2, rfl, w0_2⟩ := DataW.trod_int Tryz.underlying3 hy0_2
  have z0_2 := w0_2
  simp at e0_2
  subst e0_2
  obtain ⟨a0_3, e0_3, rfl, w0_3⟩ := DataW.trod_int Tryz.underlying3 hy0_3
  have z0_3 := w0_3
  simp at e0_3
  subst e0_3
  obtain ⟨a0_4, e0_4, rfl, w0_4⟩ := DataW.trod_int Tryz.underlying3 hy0_4
  have z0_4 := w0_4
  simp at e0_4
  subst e0_4
  obtain ⟨a0_5, e0_5, rfl, w0_5⟩ := DataW.trod_int Tryz.underlying3 hy0_5
  have z0_5 := w0_5
  simp at e0_5
  subst e0_5
  obtain ⟨a0_6, e0_6, rfl, w0_6⟩ := DataW.trod_int Tryz.underlying5 hy0_6
  have z0_6 := w0_6
  simp at e0_6
  subst e0_6
  obtain ⟨a0_7, e0_7, rfl, w0_7⟩ := DataW.trod_string Tryz.underlying9 hy0_7
  have z0_7 : a0_7.size ≤ 9223372036854775807 := by unfold maxLen at w0_7; exact w0_7
  simp at e0_7
  subst e0_7
  obtain ⟨a0_8, e0_8, rfl, w0_8⟩ := DataW.trod_string Tryz.underlying9 hy0_8
  have z0_8 : a0_8.size ≤ 9223372036854775807 := by unfold maxLen at w0_8; exact w0_8
  simp at e0_8
  subst e0_8
  obtain ⟨a0_9, e0_9, rfl, w0_9⟩ := DataW.trod_string Tryz.underlying9 hy0_9
  have z0_9 : a0_9.size ≤ 9223372036854775807 := by unfold maxLen at w0_9; exact w0_9
  simp at e0_9
  subst e0_9
  obtain ⟨a0_10, e0_10, rfl, w0_10⟩ := DataW.trod_int Tryz.underlying3 hy0_10
  have z0_10 := w0_10
  simp at e0_10
  subst e0_10
  obtain ⟨a0_11, e0_11, rfl, w0_11⟩ := DataW.trod_int Tryz.underlying3 hy0_11
  have z0_11 := w0_11
  simp at e0_11
  subst e0_11
  obtain ⟨a0_12, e0_12, rfl, w0_12⟩ := DataW.trod_string Tryz.underlying9 hy0_12
  have z0_12 : a0_12.size ≤ 9223372036854775807 := by unfold maxLen at w0_12; exact w0_12
  simp at e0_12
  subst e0_12
  have v0_0 : a0_0.size ≤ 140737488351232 := by
    have z := sized_agg_str hsz (j := 0) (t := 23) rfl rfl Tryz.underlying23 (i := 0) rfl rfl
    rw [Array.length_toList] at z
    exact z
  have v0_7 : a0_7.size ≤ 140737488351232 := by
    have z := sized_agg_str hsz (j := 0) (t := 23) rfl rfl Tryz.underlying23 (i := 7) rfl rfl
    rw [Array.length_toList] at z
    exact z
  have v0_8 : a0_8.size ≤ 140737488351232 := by
    have z := sized_agg_str hsz (j := 0) (t := 23) rfl rfl Tryz.underlying23 (i := 8) rfl rfl
    rw [Array.length_toList] at z
    exact z
  have v0_9 : a0_9.size ≤ 140737488351232 := by
    have z := sized_agg_str hsz (j := 0) (t := 23) rfl rfl Tryz.underlying23 (i := 9) rfl rfl
    rw [Array.length_toList] at z
    exact z
  have v0_12 : a0_12.size ≤ 140737488351232 := by
    have z := sized_agg_str hsz (j := 0) (t := 23) rfl rfl Tryz.underlying23 (i := 12) rfl rfl
    rw [Array.length_toList] at z
    exact z
  obtain ⟨a1, rfl, rfl, rfl, y1⟩ := open_string Tryz.underlying9 (hval 1 9 v1 rfl rfl) h1
  have w1 : a1.size ≤ 140737488351232 := by
    have z := sized_string hsz (j := 1) (t := 9) rfl rfl
    rw [Array.length_toList] at z
    exact z
  obtain ⟨a2, rfl, rfl, rfl, y2⟩ := open_string Tryz.underlying9 (hval 2 9 v2 rfl rfl) h2
  have w2 : a2.size ≤ 140737488351232 := by
    have z := sized_string hsz (j := 2) (t := 9) rfl rfl
    rw [Array.length_toList] at z
    exact z
  clear hA0 hval0 hsz0 hsz
  refine (headAll_row a0_0 a0_1 a0_2 a0_3 a0_4 a0_5 a0_6 a0_7 a0_8 a0_9 a0_10 a0_11 a0_12 a1 a2 W (good_start hSh hL) v0_0 (wf_i64 w0_1) (wf_i64 w0_2) (wf_i64 w0_3) (wf_i64 w0_4) (wf_i64 w0_5) (wf_u8 w0_6) v0_7 v0_8 v0_9 (wf_i64 w0_10) (wf_i64 w0_11) v0_12).mono fun e W' ⟨he, bel⟩ => ?_
  subst he
  exact ⟨_, rfl, _, _, _, [], _, [], hW', trodAll_mk1 (shut_bool Tryz.underlying4 _), (trodAll_cons_mk (shut_agg13 (y0 := (.lit (.string a0_0.data.toList), [])) (y1 := (.lit (.int .i64 a0_1), [])) (y2 := (.lit (.int .i64 a0_2), [])) (y3 := (.lit (.int .i64 a0_3), [])) (y4 := (.lit (.int .i64 a0_4), [])) (y5 := (.lit (.int .i64 a0_5), [])) (y6 := (.lit (.int .u8 a0_6), [])) (y7 := (.lit (.string a0_7.data.toList), [])) (y8 := (.lit (.string a0_8.data.toList), [])) (y9 := (.lit (.string a0_9.data.toList), [])) (y10 := (.lit (.int .i64 a0_10), [])) (y11 := (.lit (.int .i64 a0_11), [])) (y12 := (.lit (.string a0_12.data.toList), [])) Tryz.underlying23 (by kernel_rfl) (by kernel_rfl) (shut_string Tryz.underlying9 w0_0) (shut_int Tryz.underlying3 w0_1) (shut_int Tryz.underlying3 w0_2) (shut_int Tryz.underlying3 w0_3) (shut_int Tryz.underlying3 w0_4) (shut_int Tryz.underlying3 w0_5) (shut_int Tryz.underlying5 w0_6) (shut_string Tryz.underlying9 w0_7) (shut_string Tryz.underlying9 w0_8) (shut_string Tryz.underlying9 w0_9) (shut_int Tryz.underlying3 w0_10) (shut_int Tryz.underlying3 w0_11) (shut_string Tryz.underlying9 w0_12)) (trodAll_cons_mk (shut_string Tryz.underlying9 y1) (trodAll_cons_mk (shut_string Tryz.underlying9 y2) trodAll_mk0))), rfl, bel.frame _, fun h => by cases h⟩
theorem said : Rows.HeadAllSaid :=
  OpenClaim.holds_of_cond 3 Tryz.f3 rfl rfl rfl rfl rfl rfl rfl ⟨rfl, rfl, rfl, rfl, rfl⟩ rfl rfl rfl rfl rfl (by kernel_rfl) Tryz.func3 (by kernel_rfl)
    (of_decide_eq_true (by kernel_rfl)) (by unfold Func.isWrapper; first | (rw [if_pos (by decide +kernel)]; kernel_rfl) | (rw [if_neg (by decide +kernel)]; exact ⟨rfl, rfl⟩))
    (fun os started H enc _ F => by rw [OpenClaim.pre_eq_preRow]; exact lifted os started H enc F)
theorem plain (f : FuncId) (fn : Func) (hf : Tryz.pinned.checked.prog.funcNamed "gripsack/gripsacklaw7.HeadAll" = some f) (hfn : Tryz.pinned.checked.prog.funcs[f]? = some fn) :
    true = Tryz.pinned.checked.prog.looks [] ∧ ∀ (j : Nat) t, fn.params[j]? = some t → Tryz.pinned.checked.prog.wantsStandIn t = false := by
  obtain rfl : f = 3 := Option.some.inj ((show Tryz.prog.funcNamed "gripsack/gripsacklaw7.HeadAll" = some 3 by kernel_rfl).symm.trans hf) |>.symm
  obtain rfl : fn = Tryz.f3 := (Option.some.inj (Tryz.func3.symm.trans hfn)).symm
  refine ⟨by kernel_rfl, fun j t ht => ?_⟩
  rw [Tryz.params3] at ht
  have hm := Array.mem_of_getElem? ht
  simp only [List.mem_toArray, List.mem_cons, List.not_mem_nil, or_false] at hm
  rcases hm with rfl | rfl | rfl
  · exact (show Tryz.prog.wantsStandIn 23 = false by kernel_rfl)
  · exact (show Tryz.prog.wantsStandIn 9 = false by kernel_rfl)
  · exact (show Tryz.prog.wantsStandIn 9 = false by kernel_rfl)
theorem card : Rows.HeadAllCardSaid :=
  Claim7.holds_tied_plain_at .later [] _ _ _ _ said (fun _ h => by cases h) (by kernel_rfl) (fun _ h => by cases h) headAll_row_tie rfl ⟨rfl, rfl⟩ (by kernel_rfl) rfl plain (by kernel_rfl)
end Go.Proofs.YtpmiddhdgidimaaGreatDoor.headAll
namespace Go.Proofs.YtpmiddhdgidimaaGreatDoor
/-- The statement, under a short name, for the claim. -/
theorem headAll_holds : Rows.HeadAllCardSaid := headAll.card
#print axioms headAll_holds
end Go.Proofs.YtpmiddhdgidimaaGreatDoor
