/- StampFloats: the walk. -/
import Derived.Test.YtfdfpgkfhcmlcaaDoorFloatFrom
import Derived.Test.YtfdfpgkfhcmlcaaDoorStampRef
import Derived.Deep.RegionWith
set_option linter.unusedVariables false
set_option linter.unusedSimpArgs false
namespace Go.Proofs.YtfdfpgkfhcmlcaaDoor
open Go.RowKit Go.Proofs.YtfdfpgkfhcmlcaaDoorW.PrintWords Ieee
attribute [local go_sem high] eqAT

theorem float_any (s n : Int) (q r : Nat) (hq : floatBits .quo .f64 (floatOfInt .f64 n) billion = some q) (hr : floatBits .add .f64 (floatOfInt .f64 s) q = some r) (w : World) :
    Calls Tryd.prog 22 #[.agg #[.int .i64 s, .int .i64 n]] w fun e w' => e = .returned (.float .f64 r) ∧ Below w.heap.size w w' := by
  have a1 := fun W => run_float_arith (P := Tryd.prog) W .quo 41 .f64 (floatOfInt .f64 n) 4741671816366391296 q hq
  have a2 := fun W => run_float_arith (P := Tryd.prog) W .add 41 .f64 (floatOfInt .f64 s) q r hr
  clear hq hr
  have HB0 := Aside0.mk (below_alloc (Below.refl w.heap.size w) (.cells #[.int .i64 s, .int .i64 n] 24))
  go_enter Tryd.func22, Tryd.ntmps22
  go_wp2_with fail
  go_ret
  exact ⟨rfl, HB0.out⟩
theorem floatR_any (s n : Int) (q r : Nat) (hq : floatBits .quo .f64 (floatOfInt .f64 n) billion = some q) (hr : floatBits .add .f64 (floatOfInt .f64 s) q = some r) (w : World) :
    Calls Tryd.prog 23 #[.agg #[.int .i64 s, .int .i64 n]] w fun e w' => e = .returned (.float .f64 r) ∧ Below w.heap.size w w' := by
  have a1 := fun W => run_float_arith (P := Tryd.prog) W .quo 41 .f64 (floatOfInt .f64 n) 4741671816366391296 q hq
  have a2 := fun W => run_float_arith (P := Tryd.prog) W .add 41 .f64 (floatOfInt .f64 s) q r hr
  clear hq hr
  have HB0 := Aside0.mk (below_alloc (Below.refl w.heap.size w) (.cells #[.int .i64 s, .int .i64 n] 24))
  go_enter Tryd.func23, Tryd.ntmps23
  go_wp2_with fail
  go_ret
  exact ⟨rfl, HB0.out⟩
theorem three_fl (b : Nat) : ∃ (s n : Int) (k : Bool), gotT (fromFT b) = .tuple #[.agg #[.int .i64 s, .int .i64 n], .bool k] ∧ timeV (fromFT b) = .agg #[.int .i64 s, .int .i64 n, .bool k] := by
  cases h : fromFT b with
  | none => exact ⟨0, 0, false, rfl, rfl⟩
  | some t => exact ⟨t.1, t.2, true, rfl, rfl⟩
theorem mayR_any' (s n : Int) (w : World) : Calls Tryd.prog 15 #[.agg #[.int .i64 s, .int .i64 n]] w fun e w' => e = .returned (.bool (mayT s n)) ∧ Below w.heap.size w w' := PStN.gripsackref1_MayStamp.calls s n _ w (mayStamp_f s n)
theorem float_ok (a0 a1 : Int) (h : mayT a0 a1 = true) : ∃ q r, floatBits .quo .f64 (floatOfInt .f64 a1) billion = some q ∧ floatBits .add .f64 (floatOfInt .f64 a0) q = some r ∧ FloatKind.f64.format.order r r = some .eq := by
  have := may_iffT.1 h
  exact float_facts a0 a1 (by omega) (by omega)
set_option maxHeartbeats 4000000 in
set_option maxRecDepth 100000 in
theorem stampFloats_walk (f : Nat) (a0 a1 : Int) (w : World) (hG : Good w) (hf : (Lit.float .f64 f).wf = true) :
    Calls Tryd.prog 7 #[.float .f64 f, .agg #[.int .i64 a0, .int .i64 a1]] w fun e w' => e = .returned (.bool true) ∧ Below w.heap.size w w' := by
  have hf2 : f < 18446744073709551616 := by simpa [Lit.wf] using hf
  have HG := Aside0.mk hG
  obtain ⟨ts, tn, tb, h1, h2⟩ := three_fl f
  have HP := Aside0.mk (fun W => h1 ▸ fromFloat_any f hf2 W)
  have HR := Aside0.mk (fun W => h2 ▸ fromR_any f hf2 W)
  obtain ⟨ma, hma⟩ : ∃ ma, mayT a0 a1 = ma := ⟨_, rfl⟩
  have HMR := Aside0.mk (fun W => hma ▸ mayR_any' a0 a1 W)
  have HF := Aside0.mk (fun (h : ma = true) => float_ok a0 a1 (hma.trans h))
  clear hG hf hf2 h1 h2 hma
  have gA := heap_alloc_new w (.cells #[.int .i64 a0, .int .i64 a1] 24)
  have HB1 := Aside0.mk (below_alloc (Below.refl w.heap.size w) (.cells #[.int .i64 a0, .int .i64 a1] 24))
  go_enter Tryd.func7, Tryd.ntmps7
  go_wp2_with fail
  generalize w.alloc (.cells #[.int .i64 a0, .int .i64 a1] 24) = w1 at gA HB1 ⊢
  refine (HP.out w1).mono ?_
  rintro e w2 ⟨rfl, hb2⟩
  have gA2 := blk_alloc ((hb2.block _ (blk_lt gA)).trans gA) (.cells #[.int .i64 ts, .int .i64 tn] 24)
  have gT2 := heap_alloc_new w2 (.cells #[.int .i64 ts, .int .i64 tn] 24)
  have HB2 := Aside0.mk (below_alloc (below_next HB1.out hb2) (.cells #[.int .i64 ts, .int .i64 tn] 24))
  clear hb2 gA
  go_wp2_with fail
  obtain ⟨nT, hnT⟩ : ∃ nT, w2.heap.size = nT := ⟨_, rfl⟩
  rw [hnT] at gT2 ⊢
  generalize w2.alloc (.cells #[.int .i64 ts, .int .i64 tn] 24) = w3 at gA2 gT2 HB2 ⊢
  refine (HR.out w3).mono ?_
  rintro e w4 ⟨rfl, hb4⟩
  have gA4 := blk_alloc ((hb4.block _ (blk_lt gA2)).trans gA2) (.cells #[.int .i64 ts, .int .i64 tn, .bool tb] 35)
  have gT4 := blk_alloc ((hb4.block _ (blk_lt gT2)).trans gT2) (.cells #[.int .i64 ts, .int .i64 tn, .bool tb] 35)
  have gX4 := heap_alloc_new w4 (.cells #[.int .i64 ts, .int .i64 tn, .bool tb] 35)
  have HB4 := Aside0.mk (below_alloc (below_next HB2.out hb4) (.cells #[.int .i64 ts, .int .i64 tn, .bool tb] 35))
  clear hb4 gA2 gT2 hnT
  have HG5 := Aside0.mk (HG.out.below HB4.out)
  have u0 := blk_cell gT4 0
  have u1 := blk_cell gT4 1
  have u2 := blk_cell gA4 0
  have u3 := blk_cell gA4 1
  go_wp2_with fail
  clear u0 u1 u2 u3
  have kp : ∀ W, Below (w4.alloc (.cells #[.int .i64 ts, .int .i64 tn, .bool tb] 35)).heap.size (w4.alloc (.cells #[.int .i64 ts, .int .i64 tn, .bool tb] 35)) W → W.cell? ⟨w.heap.size, 0, none⟩ = some (.int .i64 a0) ∧ W.cell? ⟨w.heap.size, 1, none⟩ = some (.int .i64 a1) ∧ Aside0 (Below (w4.alloc (.cells #[.int .i64 ts, .int .i64 tn, .bool tb] 35)).heap.size (w4.alloc (.cells #[.int .i64 ts, .int .i64 tn, .bool tb] 35)) W) := fun W hb =>
    ⟨(hb.cell (p := ⟨_, 0, none⟩) (blk_lt gA4)).trans (blk_cell gA4 0), (hb.cell (p := ⟨_, 1, none⟩) (blk_lt gA4)).trans (blk_cell gA4 1), ⟨hb⟩⟩
  have KP := Aside0.mk kp
  clear kp gA4 gT4 gX4
  generalize (w4.alloc (.cells #[.int .i64 ts, .int .i64 tn, .bool tb] 35)) = w5 at HG5 KP HB4 ⊢
  have HR0 := Aside0.mk (Below.refl w5.heap.size w5)
  cases ma with
  | false =>
    obtain ⟨u0, u1, -⟩ := KP.out _ (below_drew HR0.out)
    go_region_with (first
      | (go_at_call 15; refine (HMR.out _).mono ?_; rintro e wp ⟨rfl, hbp⟩; have HR1 := Aside0.mk (below_next (below_drew HR0.out) hbp))
      | (go_at_call 12; refine (awake_any _ (HG5.out.below HR1.out)).mono ?_; rintro e wz ⟨rfl, hbz⟩))
    all_goals
      go_wp2_with fail
      go_ret
      exact ⟨rfl, below_next (below_next HB4.out HR1.out) hbz⟩
  | true =>
    obtain ⟨q, r, hq, hr, hrr⟩ := HF.out rfl
    have HA := Aside0.mk (fun W => float_any a0 a1 q r hq hr W)
    have HAR := Aside0.mk (fun W => floatR_any a0 a1 q r hq hr W)
    clear hq hr
    first | go_region_held3 (fun W => W.cell? ⟨w.heap.size, 0, none⟩ = some (.int .i64 a0) ∧ W.cell? ⟨w.heap.size, 1, none⟩ = some (.int .i64 a1) ∧ Aside0 (Below w5.heap.size w5 W))
      (first
        | exact KP.out _ (below_drew HR0.out)
        | exact KP.out _ hbq)
      ((go_split_ands
        have hbw := Aside0.out (by assumption : Aside0 (Below w5.heap.size w5 _))
        first
        | (go_at_call 15; refine (HMR.out _).mono ?_; rintro e wp ⟨rfl, hbp⟩; have hbq := below_next hbw hbp)
        | (go_at_call 22; refine (HA.out _).mono ?_; rintro e wp ⟨rfl, hbp⟩; have hbq := below_next hbw hbp)
        | (go_at_call 23; refine (HAR.out _).mono ?_; rintro e wp ⟨rfl, hbp⟩; have hbq := below_next hbw hbp)
        | (go_at_call 12; refine (awake_any _ (HG5.out.below hbw)).mono ?_; rintro e wp ⟨rfl, hbp⟩; have hbq := below_next hbw hbp))) | fail
    all_goals
      go_wp2_with fail
      go_ret
      exact ⟨rfl, below_next HB4.out hbq⟩
end Go.Proofs.YtfdfpgkfhcmlcaaDoor
