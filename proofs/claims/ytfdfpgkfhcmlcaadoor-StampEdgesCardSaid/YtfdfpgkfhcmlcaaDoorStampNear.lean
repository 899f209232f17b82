/- StampNear: the walk. -/
import Derived.Test.YtfdfpgkfhcmlcaaDoorFloatNear
import Derived.Test.YtfdfpgkfhcmlcaaDoorStampOrder
set_option linter.unusedVariables false
set_option linter.unusedSimpArgs false
namespace Go.Proofs.YtfdfpgkfhcmlcaaDoor
open Go.RowKit Go.Proofs.YtfdfpgkfhcmlcaaDoorW.PrintWords Ieee
attribute [local go_sem high] eqAT

theorem wf_f64 {b : Nat} (h : (Lit.float .f64 b).wf = true) : b < 18446744073709551616 := by simpa [Lit.wf] using h
theorem gotT_some (s n : Int) : gotT (some (s, n)) = .tuple #[.agg #[.int .i64 s, .int .i64 n], .bool true] := rfl
set_option maxHeartbeats 4000000 in
set_option maxRecDepth 100000 in
theorem stampNear_walk (n k m : Int) (w : World) (hG : Good w) (hn : -2147483648 ≤ n ∧ n ≤ 2147483647) (hk : 0 ≤ k ∧ k ≤ 65535) (hm : 0 ≤ m ∧ m ≤ 65535) :
    Calls Tryd.prog 9 #[.int .i32 n, .int .u16 k, .int .u16 m] w fun e w' => e = .returned (.bool true) ∧ Below w.heap.size w w' := by
  have HG := Aside0.mk hG
  clear hG
  obtain ⟨K, rfl⟩ : ∃ K : Nat, k = K := ⟨k.toNat, by omega⟩
  obtain ⟨M, rfl⟩ : ∃ M : Nat, m = M := ⟨m.toNat, by omega⟩
  obtain ⟨q1, hq1, vq1⟩ := val_quo K (by omega)
  obtain ⟨q2, hq2, vq2⟩ := val_quo M (by omega)
  obtain ⟨f, hf, vf⟩ := val_sum _ _ _ _ (val_int n (by omega)) vq1 (by omega)
  obtain ⟨g, hg, vg⟩ := val_sum _ _ _ _ vf vq2 (by omega)
  have ef := from_val f _ vf (by omega)
  have eg := from_val g _ vg (by omega)
  have bf := wf_f64 (floatBits_wf hf)
  have bg := wf_f64 (floatBits_wf hg)
  clear vq1 vq2 vf vg
  obtain ⟨a1, ha1⟩ : ∃ a1, (K : Int) * 1000000000 / 65536 = a1 := ⟨_, rfl⟩
  obtain ⟨b0, hb0⟩ : ∃ b0, (65536 * n + K + M : Int) / 65536 = b0 := ⟨_, rfl⟩
  obtain ⟨b1, hb1⟩ : ∃ b1, (65536 * n + K + M : Int) % 65536 * 1000000000 / 65536 = b1 := ⟨_, rfl⟩
  rw [hb0, hb1] at eg
  rw [show (65536 * n + K : Int) / 65536 = n by omega, show (65536 * n + K : Int) % 65536 = K by omega, ha1] at ef
  have hcmp := cmp_cases n a1 b0 b1
  obtain ⟨kc, hkc⟩ : ∃ kc, cmpT n a1 b0 b1 = kc := ⟨_, rfl⟩
  rw [hkc] at hcmp
  have hle : kc ≤ 0 := by omega
  have hmay : mayT n a1 = true := may_iffT.2 (by omega)
  have HF := Aside0.mk (fun W => show Calls Tryd.prog 20 #[.float .f64 f] W fun e w' => e = .returned (.tuple #[.agg #[.int .i64 n, .int .i64 a1], .bool true]) ∧ Below W.heap.size W w' from by
    have := fromFloat_any f bf W
    rw [ef, gotT_some] at this
    exact this)
  have HGF := Aside0.mk (fun W => show Calls Tryd.prog 20 #[.float .f64 g] W fun e w' => e = .returned (.tuple #[.agg #[.int .i64 b0, .int .i64 b1], .bool true]) ∧ Below W.heap.size W w' from by
    have := fromFloat_any g bg W
    rw [eg, gotT_some] at this
    exact this)
  have HC := Aside0.mk (fun W => hkc ▸ cmp_any n a1 b0 b1 W)
  have HMAY := Aside0.mk (fun W => may_is n a1 true hmay W)
  clear ef eg bf bg hb0 hb1 hcmp hkc hmay
  have x1 := fun W => run_float_arith (P := Tryd.prog) W .quo 41 .f64 (floatOfInt .f64 (K : Int)) 4679240012837945344 q1 hq1
  have x2 := fun W => run_float_arith (P := Tryd.prog) W .quo 41 .f64 (floatOfInt .f64 (M : Int)) 4679240012837945344 q2 hq2
  have x3 := fun W => run_float_arith (P := Tryd.prog) W .add 41 .f64 (floatOfInt .f64 n) q1 f hf
  have x4 := fun W => run_float_arith (P := Tryd.prog) W .add 41 .f64 f q2 g hg
  clear hq1 hq2 hf hg
  go_enter Tryd.func9, Tryd.ntmps9
  go_wp2_with fail
  refine (HF.out w).mono ?_
  rintro e w1 ⟨rfl, hb1⟩
  have gA := heap_alloc_new w1 (.cells #[.int .i64 n, .int .i64 a1] 24)
  have HB1 := Aside0.mk (below_alloc hb1 (.cells #[.int .i64 n, .int .i64 a1] 24))
  clear hb1
  go_wp2_with fail
  obtain ⟨nA, hnA⟩ : ∃ nA, w1.heap.size = nA := ⟨_, rfl⟩
  rw [hnA] at gA ⊢
  generalize w1.alloc (.cells #[.int .i64 n, .int .i64 a1] 24) = w2 at gA HB1 ⊢
  clear hnA
  refine (HGF.out w2).mono ?_
  rintro e w3 ⟨rfl, hb3⟩
  have gA3 := blk_alloc ((hb3.block _ (blk_lt gA)).trans gA) (.cells #[.int .i64 b0, .int .i64 b1] 24)
  have gB3 := heap_alloc_new w3 (.cells #[.int .i64 b0, .int .i64 b1] 24)
  have HB3 := Aside0.mk (below_alloc (below_next HB1.out hb3) (.cells #[.int .i64 b0, .int .i64 b1] 24))
  clear hb3 gA
  have u0 := blk_cell gA3 0
  have u1 := blk_cell gA3 1
  have hw1 : IntKind.i64.wrap (a1 - a1) = 0 := by rw [IntKind.wrap_i64]; omega
  have hdiv : Int.tdiv ((K : Int) * 1000000000) 65536 = a1 := by rw [Int.tdiv_eq_ediv_of_nonneg (by omega)]; exact ha1
  go_wp2_with (first
    | (go_at_call 17; refine (HC.out _).mono ?_; rintro e w4 ⟨rfl, hb4⟩; have HB4 := Aside0.mk (below_next HB3.out hb4); have gA4 := (hb4.block _ (blk_lt gA3)).trans gA3; clear u0 u1; have u0 := blk_cell gA4 0; have u1 := blk_cell gA4 1)
    | (go_at_call 13; refine (HMAY.out _).mono ?_; rintro e w5 ⟨rfl, hb5⟩; have HB5 := Aside0.mk (below_next HB4.out hb5))
    | (go_at_call 12; refine (awake_any _ (HG.out.below HB5.out)).mono ?_; rintro e wz ⟨rfl, hbz⟩))
  go_ret
  exact ⟨rfl, below_next HB5.out hbz⟩
end Go.Proofs.YtfdfpgkfhcmlcaaDoor
