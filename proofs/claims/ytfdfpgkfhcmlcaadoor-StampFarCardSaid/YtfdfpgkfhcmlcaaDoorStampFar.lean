/- StampFar: the walk. -/
import Derived.Test.YtfdfpgkfhcmlcaaDoorStampAwake
set_option linter.unusedVariables false
set_option linter.unusedSimpArgs false
namespace Go.Proofs.YtfdfpgkfhcmlcaaDoor
open Go.RowKit Go.Proofs.YtfdfpgkfhcmlcaaDoorW.PrintWords

theorem far_any (s n : Int) (w : World) (h : mayT s n = false) : Calls Tryd.prog 13 #[.agg #[.int .i64 s, .int .i64 n]] w fun e w' => e = .returned (.bool false) ∧ Below w.heap.size w w' := may_is s n false h w
set_option maxHeartbeats 2000000 in
set_option maxRecDepth 100000 in
theorem stampFar_walk (n k : Int) (w : World) (hG : Good w) (h0 : 0 ≤ n ∧ n ≤ 255) (h1 : -9223372036854775808 ≤ k ∧ k ≤ 9223372036854775807) :
    Calls Tryd.prog 4 #[.int .u8 n, .int .i64 k] w fun e w' => e = .returned (.bool true) ∧ Below w.heap.size w w' := by
  have HG := Aside0.mk hG
  clear hG
  obtain ⟨m, hm⟩ : ∃ m, IntKind.i64.wrap (min k (-1) - 1099511627776) = m := ⟨_, rfl⟩
  have hmm : m < -1099511627776 ∨ 1099511627776 < m := by rw [← hm, IntKind.wrap_i64]; omega
  have HMM := Aside0.mk hmm
  clear hmm
  obtain ⟨q, hq⟩ : ∃ q, n % 6 = q := ⟨_, rfl⟩
  have hq6 : q = 0 ∨ q = 1 ∨ q = 2 ∨ q = 3 ∨ q = 4 ∨ q = 5 := by omega
  have HB0 := Aside0.mk (below_alloc (Below.refl w.heap.size w) (.cells #[.int .i64 1099511627777, .int .i64 0, .int .i64 (-1099511627777), .int .i64 0, .int .i64 0, .int .i64 (-1), .int .i64 0, .int .i64 1000000000, .int .i64 1099511627776, .int .i64 1000000000, .int .i64 m, .int .i64 0] 24))
  have g0 := heap_alloc_new w (.cells #[.int .i64 1099511627777, .int .i64 0, .int .i64 (-1099511627777), .int .i64 0, .int .i64 0, .int .i64 (-1), .int .i64 0, .int .i64 1000000000, .int .i64 1099511627776, .int .i64 1000000000, .int .i64 m, .int .i64 0] 24)
  rcases hq6 with rfl | rfl | rfl | rfl | rfl | rfl
  · go_enter Tryd.func4, Tryd.ntmps4
    go_wp2_with (first
      | (go_at_call 13; have hh := HB2; refine (far_any 1099511627777 0 _ (by decide)).mono ?_; rintro e w3 ⟨rfl, hb3⟩; have HB3 := Aside0.mk (below_next HB2.out hb3))
      | (go_at_call 13; have hh := HB1; refine (may_is (-1099511627776) 0 true (by decide) _).mono ?_; rintro e w2 ⟨rfl, hb2⟩; have g2 := (hb2.block _ (blk_lt g1)).trans g1; have HB2 := Aside0.mk (below_next HB1.out hb2); have d0 := blk_cell g2 0; have d1 := blk_cell g2 1)
      | (go_at_call 13; refine (may_is 1099511627776 999999999 true (by decide) _).mono ?_; rintro e w1 ⟨rfl, hb1⟩; have g1 := (hb1.block _ (blk_lt g0)).trans g0; have HB1 := Aside0.mk (below_next HB0.out hb1))
      | (go_at_call 12; refine (awake_any _ (HG.out.below HB3.out)).mono ?_; rintro e w4 ⟨rfl, hb4⟩))
    go_ret
    exact ⟨rfl, below_next HB3.out hb4⟩
  · go_enter Tryd.func4, Tryd.ntmps4
    go_wp2_with (first
      | (go_at_call 13; have hh := HB2; refine (far_any (-1099511627777) 0 _ (by decide)).mono ?_; rintro e w3 ⟨rfl, hb3⟩; have HB3 := Aside0.mk (below_next HB2.out hb3))
      | (go_at_call 13; have hh := HB1; refine (may_is (-1099511627776) 0 true (by decide) _).mono ?_; rintro e w2 ⟨rfl, hb2⟩; have g2 := (hb2.block _ (blk_lt g1)).trans g1; have HB2 := Aside0.mk (below_next HB1.out hb2); have d0 := blk_cell g2 2; have d1 := blk_cell g2 3)
      | (go_at_call 13; refine (may_is 1099511627776 999999999 true (by decide) _).mono ?_; rintro e w1 ⟨rfl, hb1⟩; have g1 := (hb1.block _ (blk_lt g0)).trans g0; have HB1 := Aside0.mk (below_next HB0.out hb1))
      | (go_at_call 12; refine (awake_any _ (HG.out.below HB3.out)).mono ?_; rintro e w4 ⟨rfl, hb4⟩))
    go_ret
    exact ⟨rfl, below_next HB3.out hb4⟩
  · go_enter Tryd.func4, Tryd.ntmps4
    go_wp2_with (first
      | (go_at_call 13; have hh := HB2; refine (far_any 0 (-1) _ (by decide)).mono ?_; rintro e w3 ⟨rfl, hb3⟩; have HB3 := Aside0.mk (below_next HB2.out hb3))
      | (go_at_call 13; have hh := HB1; refine (may_is (-1099511627776) 0 true (by decide) _).mono ?_; rintro e w2 ⟨rfl, hb2⟩; have g2 := (hb2.block _ (blk_lt g1)).trans g1; have HB2 := Aside0.mk (below_next HB1.out hb2); have d0 := blk_cell g2 4; have d1 := blk_cell g2 5)
      | (go_at_call 13; refine (may_is 1099511627776 999999999 true (by decide) _).mono ?_; rintro e w1 ⟨rfl, hb1⟩; have g1 := (hb1.block _ (blk_lt g0)).trans g0; have HB1 := Aside0.mk (below_next HB0.out hb1))
      | (go_at_call 12; refine (awake_any _ (HG.out.below HB3.out)).mono ?_; rintro e w4 ⟨rfl, hb4⟩))
    go_ret
    exact ⟨rfl, below_next HB3.out hb4⟩
  · go_enter Tryd.func4, Tryd.ntmps4
    go_wp2_with (first
      | (go_at_call 13; have hh := HB2; refine (far_any 0 1000000000 _ (by decide)).mono ?_; rintro e w3 ⟨rfl, hb3⟩; have HB3 := Aside0.mk (below_next HB2.out hb3))
      | (go_at_call 13; have hh := HB1; refine (may_is (-1099511627776) 0 true (by decide) _).mono ?_; rintro e w2 ⟨rfl, hb2⟩; have g2 := (hb2.block _ (blk_lt g1)).trans g1; have HB2 := Aside0.mk (below_next HB1.out hb2); have d0 := blk_cell g2 6; have d1 := blk_cell g2 7)
      | (go_at_call 13; refine (may_is 1099511627776 999999999 true (by decide) _).mono ?_; rintro e w1 ⟨rfl, hb1⟩; have g1 := (hb1.block _ (blk_lt g0)).trans g0; have HB1 := Aside0.mk (below_next HB0.out hb1))
      | (go_at_call 12; refine (awake_any _ (HG.out.below HB3.out)).mono ?_; rintro e w4 ⟨rfl, hb4⟩))
    go_ret
    exact ⟨rfl, below_next HB3.out hb4⟩
  · go_enter Tryd.func4, Tryd.ntmps4
    go_wp2_with (first
      | (go_at_call 13; have hh := HB2; refine (far_any 1099511627776 1000000000 _ (by decide)).mono ?_; rintro e w3 ⟨rfl, hb3⟩; have HB3 := Aside0.mk (below_next HB2.out hb3))
      | (go_at_call 13; have hh := HB1; refine (may_is (-1099511627776) 0 true (by decide) _).mono ?_; rintro e w2 ⟨rfl, hb2⟩; have g2 := (hb2.block _ (blk_lt g1)).trans g1; have HB2 := Aside0.mk (below_next HB1.out hb2); have d0 := blk_cell g2 8; have d1 := blk_cell g2 9)
      | (go_at_call 13; refine (may_is 1099511627776 999999999 true (by decide) _).mono ?_; rintro e w1 ⟨rfl, hb1⟩; have g1 := (hb1.block _ (blk_lt g0)).trans g0; have HB1 := Aside0.mk (below_next HB0.out hb1))
      | (go_at_call 12; refine (awake_any _ (HG.out.below HB3.out)).mono ?_; rintro e w4 ⟨rfl, hb4⟩))
    go_ret
    exact ⟨rfl, below_next HB3.out hb4⟩
  · go_enter Tryd.func4, Tryd.ntmps4
    go_wp2_with (first
      | (go_at_call 13; have hh := HB2; refine (far_any m 0 _ (Bool.eq_false_iff.2 fun e => by have := may_iffT.1 e; have := HMM.out; omega)).mono ?_; rintro e w3 ⟨rfl, hb3⟩; have HB3 := Aside0.mk (below_next HB2.out hb3))
      | (go_at_call 13; have hh := HB1; refine (may_is (-1099511627776) 0 true (by decide) _).mono ?_; rintro e w2 ⟨rfl, hb2⟩; have g2 := (hb2.block _ (blk_lt g1)).trans g1; have HB2 := Aside0.mk (below_next HB1.out hb2); have d0 := blk_cell g2 10; have d1 := blk_cell g2 11)
      | (go_at_call 13; refine (may_is 1099511627776 999999999 true (by decide) _).mono ?_; rintro e w1 ⟨rfl, hb1⟩; have g1 := (hb1.block _ (blk_lt g0)).trans g0; have HB1 := Aside0.mk (below_next HB0.out hb1))
      | (go_at_call 12; refine (awake_any _ (HG.out.below HB3.out)).mono ?_; rintro e w4 ⟨rfl, hb4⟩))
    go_ret
    exact ⟨rfl, below_next HB3.out hb4⟩
end Go.Proofs.YtfdfpgkfhcmlcaaDoor
