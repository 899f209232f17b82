/- stamp.Parse, where both parts are numbers. Printed by wip/tools/genstamp.py. -/
import Derived.Test.YtfdfpgkfhcmlcaaDoorStampParse
set_option linter.unusedVariables false
set_option linter.unusedSimpArgs false
namespace Go.Proofs.YtfdfpgkfhcmlcaaDoor
open Go.RowKit Go.Proofs.YtfdfpgkfhcmlcaaDoorW.PrintWords
set_option maxHeartbeats 1000000 in
set_option maxRecDepth 100000 in
theorem parse_pos_may (x a b : List UInt8) (f : Bool) (y : List UInt8)
    (hy : Lib.trimPrefix x [45] = y) (hc : cutAt 46 y = (a, b, f)) (hb : ¬ 9 < b.length) (w : World) (hG : Good w) (hx : x.length ≤ 1000000) (hyl : y.length ≤ 1000000) (hal : a.length ≤ 1000000)
    (sec nano : Int) (hok : Lib.atoiAll a = .ok sec) (hok2 : Lib.atoiAll (padT b) = .ok nano) (hbig : sec ≤ 1099511627776) (hbig2 : nano < 1000000000) (hpre : Lib.hasPrefix x [45] = false) (hm : mayT sec nano = false) :
    Calls Tryd.prog 11 #[.string (mkS x)] w fun e w' => e = .returned (gotT none) ∧ Below w.heap.size w w' := by
  have HG := Aside0.mk hG
  have HB0 := Aside0.mk (below_alloc (Below.refl w.heap.size w) (.cells #[.int .i64 0, .int .i64 0] 24))
  have g0 := heap_alloc_new w (.cells #[.int .i64 0, .int .i64 0] 24)
  have hb' : (b.length : Int) ≤ 9 := by omega
  have HSUB := Aside0.mk (show (9 : Int) - (b.length : Int) = ((9 - b.length : Nat) : Int) by omega)
  obtain ⟨zs, hzs⟩ : ∃ zs, List.replicate (9 - b.length) (48 : UInt8) = zs := ⟨_, rfl⟩
  have hzl : zs.length = 9 - b.length := by rw [← hzs]; simp
  obtain ⟨ps, hps⟩ : ∃ ps, b ++ zs = ps := ⟨_, rfl⟩
  have hpl : ps.length = 9 := by rw [← hps]; simp; omega
  have a3 := fun W => str_add (P := Tryd.prog) (s := mkS b) (t := mkS zs) (a := b) (b := zs) rfl rfl hps (by omega) W
  have hpad : padT b = ps := by unfold padT; rw [hzs, hps]
  have HY := Aside0.mk hy
  have HC := Aside0.mk hc
  have HZ := Aside0.mk hzs
  rw [hpad] at hok2
  have HA := Aside0.mk hok
  have HBD := Aside0.mk hok2
  have HP := Aside0.mk hpre
  have HM := Aside0.mk hm
  clear hG hy hc hzs hps hpad hok hok2 hpre hm
  go_enter Tryd.func11, Tryd.ntmps11
  go_wp2_with (first
    | (go_at_call 28; refine (trimPrefix_any x y HY.out _).mono ?_; rintro e w1 ⟨rfl, rfl⟩)
    | (go_at_call 27; refine (cut_any y 46 a b f HC.out _ (HG.out.below HB0.out) (by omega)).mono ?_; rintro e w2 ⟨rfl, hb2⟩; have g2 := (hb2.block _ (blk_lt g0)).trans g0; have HB2 := Aside0.mk (below_next HB0.out hb2))
    | (go_at_call 26; refine (repeat_any (9 - b.length) _ HSUB.out _ (by omega)).mono ?_; rintro e w3 ⟨rfl, hb3⟩; rw [HZ.out]; have g4 := (hb3.block _ (blk_lt g3)).trans g3; have HB4 := Aside0.mk (below_next HB3.out hb3))
    | (go_at_call 29; have hq4 := g4; refine (atoi_okL ps nano _ (by omega) HBD.out).mono ?_; rintro e w5 ⟨rfl, hb5⟩; have g5 := (hb5.block _ (blk_lt g4)).trans g4; have HB5 := Aside0.mk (below_next HB4.out hb5))
    | (go_at_call 29; refine (atoi_okL a sec _ hal HA.out).mono ?_; rintro e w4 ⟨rfl, hb4⟩; have g3 := (hb4.block _ (blk_lt g2)).trans g2; have HB3 := Aside0.mk (below_next HB2.out hb4))
    | (go_at_call 30; refine (hasPrefix_any x false HP.out _).mono ?_; rintro e w6 ⟨rfl, rfl⟩)
    | (go_at_call 13
       have HB6 := Aside0.mk (below_alloc HB5.out (.cells #[.int .i64 sec, .int .i64 nano] 24))
       have k6 := heap_alloc_new w5 (.cells #[.int .i64 sec, .int .i64 nano] 24)
       have g6 := blk_alloc g5 (.cells #[.int .i64 sec, .int .i64 nano] 24)
       refine (may_is sec nano false HM.out _).mono ?_
       rintro e w7 ⟨rfl, hb7⟩
       have HB7 := Aside0.mk (below_next HB6.out hb7)
       have g7 := (hb7.block _ (blk_lt g6)).trans g6
       have k7 := (hb7.block _ (blk_lt k6)).trans k6
       have d0 := blk_cell k7 0
       have d1 := blk_cell k7 1
       have c0 := blk_cell g7 0
       have c1 := blk_cell g7 1
       have f0 := blk_frozen g7 0
       have f1 := blk_frozen g7 1))
  obtain ⟨r0, r1⟩ := set_two (y0 := .int .i64 (0)) (y1 := .int .i64 (0)) c0 c1
  refine bodyPost_ret (ret_stamp r0 r1 rfl rfl) rfl ?_
  exact ⟨rfl, (HB7.out.setCell (Nat.le_refl _) _).setCell (Nat.le_refl _) _⟩
set_option maxHeartbeats 1000000 in
set_option maxRecDepth 100000 in
theorem parse_pos_other (x a b : List UInt8) (f : Bool) (y : List UInt8)
    (hy : Lib.trimPrefix x [45] = y) (hc : cutAt 46 y = (a, b, f)) (hb : ¬ 9 < b.length) (w : World) (hG : Good w) (hx : x.length ≤ 1000000) (hyl : y.length ≤ 1000000) (hal : a.length ≤ 1000000)
    (sec nano : Int) (hok : Lib.atoiAll a = .ok sec) (hok2 : Lib.atoiAll (padT b) = .ok nano) (hbig : sec ≤ 1099511627776) (hbig2 : nano < 1000000000) (hpre : Lib.hasPrefix x [45] = false) (hm : mayT sec nano = true) (t : List UInt8) (ht : textT sec nano = t) (hne : ¬ t = x) :
    Calls Tryd.prog 11 #[.string (mkS x)] w fun e w' => e = .returned (gotT none) ∧ Below w.heap.size w w' := by
  have HG := Aside0.mk hG
  have HB0 := Aside0.mk (below_alloc (Below.refl w.heap.size w) (.cells #[.int .i64 0, .int .i64 0] 24))
  have g0 := heap_alloc_new w (.cells #[.int .i64 0, .int .i64 0] 24)
  have hb' : (b.length : Int) ≤ 9 := by omega
  have HSUB := Aside0.mk (show (9 : Int) - (b.length : Int) = ((9 - b.length : Nat) : Int) by omega)
  obtain ⟨zs, hzs⟩ : ∃ zs, List.replicate (9 - b.length) (48 : UInt8) = zs := ⟨_, rfl⟩
  have hzl : zs.length = 9 - b.length := by rw [← hzs]; simp
  obtain ⟨ps, hps⟩ : ∃ ps, b ++ zs = ps := ⟨_, rfl⟩
  have hpl : ps.length = 9 := by rw [← hps]; simp; omega
  have a3 := fun W => str_add (P := Tryd.prog) (s := mkS b) (t := mkS zs) (a := b) (b := zs) rfl rfl hps (by omega) W
  have hpad : padT b = ps := by unfold padT; rw [hzs, hps]
  have HY := Aside0.mk hy
  have HC := Aside0.mk hc
  have HZ := Aside0.mk hzs
  rw [hpad] at hok2
  have HA := Aside0.mk hok
  have HBD := Aside0.mk hok2
  have HP := Aside0.mk hpre
  have HM := Aside0.mk hm
  have HT := Aside0.mk ht
  have htl : t.length ≤ 40 := by have := (text_len hm).2; rw [ht] at this; exact this
  have hcmp : (t == x) = false := beq_eq_false_iff_ne.2 hne
  clear hG hy hc hzs hps hpad hok hok2 hpre hm ht hne
  go_enter Tryd.func11, Tryd.ntmps11
  go_wp2_with (first
    | (go_at_call 28; refine (trimPrefix_any x y HY.out _).mono ?_; rintro e w1 ⟨rfl, rfl⟩)
    | (go_at_call 27; refine (cut_any y 46 a b f HC.out _ (HG.out.below HB0.out) (by omega)).mono ?_; rintro e w2 ⟨rfl, hb2⟩; have g2 := (hb2.block _ (blk_lt g0)).trans g0; have HB2 := Aside0.mk (below_next HB0.out hb2))
    | (go_at_call 26; refine (repeat_any (9 - b.length) _ HSUB.out _ (by omega)).mono ?_; rintro e w3 ⟨rfl, hb3⟩; rw [HZ.out]; have g4 := (hb3.block _ (blk_lt g3)).trans g3; have HB4 := Aside0.mk (below_next HB3.out hb3))
    | (go_at_call 29; have hq4 := g4; refine (atoi_okL ps nano _ (by omega) HBD.out).mono ?_; rintro e w5 ⟨rfl, hb5⟩; have g5 := (hb5.block _ (blk_lt g4)).trans g4; have HB5 := Aside0.mk (below_next HB4.out hb5))
    | (go_at_call 29; refine (atoi_okL a sec _ hal HA.out).mono ?_; rintro e w4 ⟨rfl, hb4⟩; have g3 := (hb4.block _ (blk_lt g2)).trans g2; have HB3 := Aside0.mk (below_next HB2.out hb4))
    | (go_at_call 30; refine (hasPrefix_any x false HP.out _).mono ?_; rintro e w6 ⟨rfl, rfl⟩)
    | (go_at_call 13
       have HB6 := Aside0.mk (below_alloc HB5.out (.cells #[.int .i64 sec, .int .i64 nano] 24))
       have k6 := heap_alloc_new w5 (.cells #[.int .i64 sec, .int .i64 nano] 24)
       have g6 := blk_alloc g5 (.cells #[.int .i64 sec, .int .i64 nano] 24)
       refine (may_is sec nano true HM.out _).mono ?_
       rintro e w7 ⟨rfl, hb7⟩
       have HB7 := Aside0.mk (below_next HB6.out hb7)
       have g7 := (hb7.block _ (blk_lt g6)).trans g6
       have k7 := (hb7.block _ (blk_lt k6)).trans k6
       have d0 := blk_cell k7 0
       have d1 := blk_cell k7 1
       have c0 := blk_cell g7 0
       have c1 := blk_cell g7 1
       have f0 := blk_frozen g7 0
       have f1 := blk_frozen g7 1)
    | (go_at_call 10
       refine (text_any sec nano _ (HG.out.below HB7.out) HM.out).mono ?_
       rintro e w8 ⟨rfl, hb8⟩
       rw [HT.out]
       clear c0 c1 f0 f1 d0 d1
       have HB8 := Aside0.mk (below_next HB7.out hb8)
       have g8 := (hb8.block _ (blk_lt g7)).trans g7
       have k8 := (hb8.block _ (blk_lt k7)).trans k7
       have d0 := blk_cell k8 0
       have d1 := blk_cell k8 1
       have c0 := blk_cell g8 0
       have c1 := blk_cell g8 1
       have f0 := blk_frozen g8 0
       have f1 := blk_frozen g8 1))
  obtain ⟨r0, r1⟩ := set_two (y0 := .int .i64 (0)) (y1 := .int .i64 (0)) c0 c1
  refine bodyPost_ret (ret_stamp r0 r1 rfl rfl) rfl ?_
  exact ⟨rfl, (HB8.out.setCell (Nat.le_refl _) _).setCell (Nat.le_refl _) _⟩
set_option maxHeartbeats 1000000 in
set_option maxRecDepth 100000 in
theorem parse_pos_ok (x a b : List UInt8) (f : Bool) (y : List UInt8)
    (hy : Lib.trimPrefix x [45] = y) (hc : cutAt 46 y = (a, b, f)) (hb : ¬ 9 < b.length) (w : World) (hG : Good w) (hx : x.length ≤ 1000000) (hyl : y.length ≤ 1000000) (hal : a.length ≤ 1000000)
    (sec nano : Int) (hok : Lib.atoiAll a = .ok sec) (hok2 : Lib.atoiAll (padT b) = .ok nano) (hbig : sec ≤ 1099511627776) (hbig2 : nano < 1000000000) (hpre : Lib.hasPrefix x [45] = false) (hm : mayT sec nano = true) (ht : textT sec nano = x) :
    Calls Tryd.prog 11 #[.string (mkS x)] w fun e w' => e = .returned (gotT (some (sec, nano))) ∧ Below w.heap.size w w' := by
  have HG := Aside0.mk hG
  have HB0 := Aside0.mk (below_alloc (Below.refl w.heap.size w) (.cells #[.int .i64 0, .int .i64 0] 24))
  have g0 := heap_alloc_new w (.cells #[.int .i64 0, .int .i64 0] 24)
  have hb' : (b.length : Int) ≤ 9 := by omega
  have HSUB := Aside0.mk (show (9 : Int) - (b.length : Int) = ((9 - b.length : Nat) : Int) by omega)
  obtain ⟨zs, hzs⟩ : ∃ zs, List.replicate (9 - b.length) (48 : UInt8) = zs := ⟨_, rfl⟩
  have hzl : zs.length = 9 - b.length := by rw [← hzs]; simp
  obtain ⟨ps, hps⟩ : ∃ ps, b ++ zs = ps := ⟨_, rfl⟩
  have hpl : ps.length = 9 := by rw [← hps]; simp; omega
  have a3 := fun W => str_add (P := Tryd.prog) (s := mkS b) (t := mkS zs) (a := b) (b := zs) rfl rfl hps (by omega) W
  have hpad : padT b = ps := by unfold padT; rw [hzs, hps]
  have HY := Aside0.mk hy
  have HC := Aside0.mk hc
  have HZ := Aside0.mk hzs
  rw [hpad] at hok2
  have HA := Aside0.mk hok
  have HBD := Aside0.mk hok2
  have HP := Aside0.mk hpre
  have HM := Aside0.mk hm
  have HT := Aside0.mk ht
  clear hG hy hc hzs hps hpad hok hok2 hpre hm ht
  go_enter Tryd.func11, Tryd.ntmps11
  go_wp2_with (first
    | (go_at_call 28; refine (trimPrefix_any x y HY.out _).mono ?_; rintro e w1 ⟨rfl, rfl⟩)
    | (go_at_call 27; refine (cut_any y 46 a b f HC.out _ (HG.out.below HB0.out) (by omega)).mono ?_; rintro e w2 ⟨rfl, hb2⟩; have g2 := (hb2.block _ (blk_lt g0)).trans g0; have HB2 := Aside0.mk (below_next HB0.out hb2))
    | (go_at_call 26; refine (repeat_any (9 - b.length) _ HSUB.out _ (by omega)).mono ?_; rintro e w3 ⟨rfl, hb3⟩; rw [HZ.out]; have g4 := (hb3.block _ (blk_lt g3)).trans g3; have HB4 := Aside0.mk (below_next HB3.out hb3))
    | (go_at_call 29; have hq4 := g4; refine (atoi_okL ps nano _ (by omega) HBD.out).mono ?_; rintro e w5 ⟨rfl, hb5⟩; have g5 := (hb5.block _ (blk_lt g4)).trans g4; have HB5 := Aside0.mk (below_next HB4.out hb5))
    | (go_at_call 29; refine (atoi_okL a sec _ hal HA.out).mono ?_; rintro e w4 ⟨rfl, hb4⟩; have g3 := (hb4.block _ (blk_lt g2)).trans g2; have HB3 := Aside0.mk (below_next HB2.out hb4))
    | (go_at_call 30; refine (hasPrefix_any x false HP.out _).mono ?_; rintro e w6 ⟨rfl, rfl⟩)
    | (go_at_call 13
       have HB6 := Aside0.mk (below_alloc HB5.out (.cells #[.int .i64 sec, .int .i64 nano] 24))
       have k6 := heap_alloc_new w5 (.cells #[.int .i64 sec, .int .i64 nano] 24)
       have g6 := blk_alloc g5 (.cells #[.int .i64 sec, .int .i64 nano] 24)
       refine (may_is sec nano true HM.out _).mono ?_
       rintro e w7 ⟨rfl, hb7⟩
       have HB7 := Aside0.mk (below_next HB6.out hb7)
       have g7 := (hb7.block _ (blk_lt g6)).trans g6
       have k7 := (hb7.block _ (blk_lt k6)).trans k6
       have d0 := blk_cell k7 0
       have d1 := blk_cell k7 1
       have c0 := blk_cell g7 0
       have c1 := blk_cell g7 1
       have f0 := blk_frozen g7 0
       have f1 := blk_frozen g7 1)
    | (go_at_call 10
       refine (text_any sec nano _ (HG.out.below HB7.out) HM.out).mono ?_
       rintro e w8 ⟨rfl, hb8⟩
       rw [HT.out]
       clear c0 c1 f0 f1 d0 d1
       have HB8 := Aside0.mk (below_next HB7.out hb8)
       have g8 := (hb8.block _ (blk_lt g7)).trans g7
       have k8 := (hb8.block _ (blk_lt k7)).trans k7
       have d0 := blk_cell k8 0
       have d1 := blk_cell k8 1
       have c0 := blk_cell g8 0
       have c1 := blk_cell g8 1
       have f0 := blk_frozen g8 0
       have f1 := blk_frozen g8 1))
  obtain ⟨r0, r1⟩ := set_two (y0 := .int .i64 (sec)) (y1 := .int .i64 (nano)) c0 c1
  refine bodyPost_ret (ret_stamp r0 r1 rfl rfl) rfl ?_
  exact ⟨rfl, (HB8.out.setCell (Nat.le_refl _) _).setCell (Nat.le_refl _) _⟩
set_option maxHeartbeats 1000000 in
set_option maxRecDepth 100000 in
theorem parse_neg0_may (x a b : List UInt8) (f : Bool) (y : List UInt8)
    (hy : Lib.trimPrefix x [45] = y) (hc : cutAt 46 y = (a, b, f)) (hb : ¬ 9 < b.length) (w : World) (hG : Good w) (hx : x.length ≤ 1000000) (hyl : y.length ≤ 1000000) (hal : a.length ≤ 1000000)
    (sec nano : Int) (hok : Lib.atoiAll a = .ok sec) (hok2 : Lib.atoiAll (padT b) = .ok nano) (hbig : sec ≤ 1099511627776) (hbig2 : nano < 1000000000) (hpre : Lib.hasPrefix x [45] = true) (hn : nano ≤ 0) (u : Int) (hu : IntKind.i64.wrap (-sec) = u) (hm : mayT u nano = false) :
    Calls Tryd.prog 11 #[.string (mkS x)] w fun e w' => e = .returned (gotT none) ∧ Below w.heap.size w w' := by
  have HG := Aside0.mk hG
  have HB0 := Aside0.mk (below_alloc (Below.refl w.heap.size w) (.cells #[.int .i64 0, .int .i64 0] 24))
  have g0 := heap_alloc_new w (.cells #[.int .i64 0, .int .i64 0] 24)
  have hb' : (b.length : Int) ≤ 9 := by omega
  have HSUB := Aside0.mk (show (9 : Int) - (b.length : Int) = ((9 - b.length : Nat) : Int) by omega)
  obtain ⟨zs, hzs⟩ : ∃ zs, List.replicate (9 - b.length) (48 : UInt8) = zs := ⟨_, rfl⟩
  have hzl : zs.length = 9 - b.length := by rw [← hzs]; simp
  obtain ⟨ps, hps⟩ : ∃ ps, b ++ zs = ps := ⟨_, rfl⟩
  have hpl : ps.length = 9 := by rw [← hps]; simp; omega
  have a3 := fun W => str_add (P := Tryd.prog) (s := mkS b) (t := mkS zs) (a := b) (b := zs) rfl rfl hps (by omega) W
  have hpad : padT b = ps := by unfold padT; rw [hzs, hps]
  have HY := Aside0.mk hy
  have HC := Aside0.mk hc
  have HZ := Aside0.mk hzs
  rw [hpad] at hok2
  have HA := Aside0.mk hok
  have HBD := Aside0.mk hok2
  have HP := Aside0.mk hpre
  have HM := Aside0.mk hm
  clear hG hy hc hzs hps hpad hok hok2 hpre hm
  go_enter Tryd.func11, Tryd.ntmps11
  go_wp2_with (first
    | (go_at_call 28; refine (trimPrefix_any x y HY.out _).mono ?_; rintro e w1 ⟨rfl, rfl⟩)
    | (go_at_call 27; refine (cut_any y 46 a b f HC.out _ (HG.out.below HB0.out) (by omega)).mono ?_; rintro e w2 ⟨rfl, hb2⟩; have g2 := (hb2.block _ (blk_lt g0)).trans g0; have HB2 := Aside0.mk (below_next HB0.out hb2))
    | (go_at_call 26; refine (repeat_any (9 - b.length) _ HSUB.out _ (by omega)).mono ?_; rintro e w3 ⟨rfl, hb3⟩; rw [HZ.out]; have g4 := (hb3.block _ (blk_lt g3)).trans g3; have HB4 := Aside0.mk (below_next HB3.out hb3))
    | (go_at_call 29; have hq4 := g4; refine (atoi_okL ps nano _ (by omega) HBD.out).mono ?_; rintro e w5 ⟨rfl, hb5⟩; have g5 := (hb5.block _ (blk_lt g4)).trans g4; have HB5 := Aside0.mk (below_next HB4.out hb5))
    | (go_at_call 29; refine (atoi_okL a sec _ hal HA.out).mono ?_; rintro e w4 ⟨rfl, hb4⟩; have g3 := (hb4.block _ (blk_lt g2)).trans g2; have HB3 := Aside0.mk (below_next HB2.out hb4))
    | (go_at_call 30; refine (hasPrefix_any x true HP.out _).mono ?_; rintro e w6 ⟨rfl, rfl⟩)
    | (go_at_call 13
       have HB6 := Aside0.mk (below_alloc HB5.out (.cells #[.int .i64 u, .int .i64 nano] 24))
       have k6 := heap_alloc_new w5 (.cells #[.int .i64 u, .int .i64 nano] 24)
       have g6 := blk_alloc g5 (.cells #[.int .i64 u, .int .i64 nano] 24)
       refine (may_is u nano false HM.out _).mono ?_
       rintro e w7 ⟨rfl, hb7⟩
       have HB7 := Aside0.mk (below_next HB6.out hb7)
       have g7 := (hb7.block _ (blk_lt g6)).trans g6
       have k7 := (hb7.block _ (blk_lt k6)).trans k6
       have d0 := blk_cell k7 0
       have d1 := blk_cell k7 1
       have c0 := blk_cell g7 0
       have c1 := blk_cell g7 1
       have f0 := blk_frozen g7 0
       have f1 := blk_frozen g7 1))
  obtain ⟨r0, r1⟩ := set_two (y0 := .int .i64 (0)) (y1 := .int .i64 (0)) c0 c1
  refine bodyPost_ret (ret_stamp r0 r1 rfl rfl) rfl ?_
  exact ⟨rfl, (HB7.out.setCell (Nat.le_refl _) _).setCell (Nat.le_refl _) _⟩
set_option maxHeartbeats 1000000 in
set_option maxRecDepth 100000 in
theorem parse_neg0_other (x a b : List UInt8) (f : Bool) (y : List UInt8)
    (hy : Lib.trimPrefix x [45] = y) (hc : cutAt 46 y = (a, b, f)) (hb : ¬ 9 < b.length) (w : World) (hG : Good w) (hx : x.length ≤ 1000000) (hyl : y.length ≤ 1000000) (hal : a.length ≤ 1000000)
    (sec nano : Int) (hok : Lib.atoiAll a = .ok sec) (hok2 : Lib.atoiAll (padT b) = .ok nano) (hbig : sec ≤ 1099511627776) (hbig2 : nano < 1000000000) (hpre : Lib.hasPrefix x [45] = true) (hn : nano ≤ 0) (u : Int) (hu : IntKind.i64.wrap (-sec) = u) (hm : mayT u nano = true) (t : List UInt8) (ht : textT u nano = t) (hne : ¬ t = x) :
    Calls Tryd.prog 11 #[.string (mkS x)] w fun e w' => e = .returned (gotT none) ∧ Below w.heap.size w w' := by
  have HG := Aside0.mk hG
  have HB0 := Aside0.mk (below_alloc (Below.refl w.heap.size w) (.cells #[.int .i64 0, .int .i64 0] 24))
  have g0 := heap_alloc_new w (.cells #[.int .i64 0, .int .i64 0] 24)
  have hb' : (b.length : Int) ≤ 9 := by omega
  have HSUB := Aside0.mk (show (9 : Int) - (b.length : Int) = ((9 - b.length : Nat) : Int) by omega)
  obtain ⟨zs, hzs⟩ : ∃ zs, List.replicate (9 - b.length) (48 : UInt8) = zs := ⟨_, rfl⟩
  have hzl : zs.length = 9 - b.length := by rw [← hzs]; simp
  obtain ⟨ps, hps⟩ : ∃ ps, b ++ zs = ps := ⟨_, rfl⟩
  have hpl : ps.length = 9 := by rw [← hps]; simp; omega
  have a3 := fun W => str_add (P := Tryd.prog) (s := mkS b) (t := mkS zs) (a := b) (b := zs) rfl rfl hps (by omega) W
  have hpad : padT b = ps := by unfold padT; rw [hzs, hps]
  have HY := Aside0.mk hy
  have HC := Aside0.mk hc
  have HZ := Aside0.mk hzs
  rw [hpad] at hok2
  have HA := Aside0.mk hok
  have HBD := Aside0.mk hok2
  have HP := Aside0.mk hpre
  have HM := Aside0.mk hm
  have HT := Aside0.mk ht
  have htl : t.length ≤ 40 := by have := (text_len hm).2; rw [ht] at this; exact this
  have hcmp : (t == x) = false := beq_eq_false_iff_ne.2 hne
  clear hG hy hc hzs hps hpad hok hok2 hpre hm ht hne
  go_enter Tryd.func11, Tryd.ntmps11
  go_wp2_with (first
    | (go_at_call 28; refine (trimPrefix_any x y HY.out _).mono ?_; rintro e w1 ⟨rfl, rfl⟩)
    | (go_at_call 27; refine (cut_any y 46 a b f HC.out _ (HG.out.below HB0.out) (by omega)).mono ?_; rintro e w2 ⟨rfl, hb2⟩; have g2 := (hb2.block _ (blk_lt g0)).trans g0; have HB2 := Aside0.mk (below_next HB0.out hb2))
    | (go_at_call 26; refine (repeat_any (9 - b.length) _ HSUB.out _ (by omega)).mono ?_; rintro e w3 ⟨rfl, hb3⟩; rw [HZ.out]; have g4 := (hb3.block _ (blk_lt g3)).trans g3; have HB4 := Aside0.mk (below_next HB3.out hb3))
    | (go_at_call 29; have hq4 := g4; refine (atoi_okL ps nano _ (by omega) HBD.out).mono ?_; rintro e w5 ⟨rfl, hb5⟩; have g5 := (hb5.block _ (blk_lt g4)).trans g4; have HB5 := Aside0.mk (below_next HB4.out hb5))
    | (go_at_call 29; refine (atoi_okL a sec _ hal HA.out).mono ?_; rintro e w4 ⟨rfl, hb4⟩; have g3 := (hb4.block _ (blk_lt g2)).trans g2; have HB3 := Aside0.mk (below_next HB2.out hb4))
    | (go_at_call 30; refine (hasPrefix_any x true HP.out _).mono ?_; rintro e w6 ⟨rfl, rfl⟩)
    | (go_at_call 13
       have HB6 := Aside0.mk (below_alloc HB5.out (.cells #[.int .i64 u, .int .i64 nano] 24))
       have k6 := heap_alloc_new w5 (.cells #[.int .i64 u, .int .i64 nano] 24)
       have g6 := blk_alloc g5 (.cells #[.int .i64 u, .int .i64 nano] 24)
       refine (may_is u nano true HM.out _).mono ?_
       rintro e w7 ⟨rfl, hb7⟩
       have HB7 := Aside0.mk (below_next HB6.out hb7)
       have g7 := (hb7.block _ (blk_lt g6)).trans g6
       have k7 := (hb7.block _ (blk_lt k6)).trans k6
       have d0 := blk_cell k7 0
       have d1 := blk_cell k7 1
       have c0 := blk_cell g7 0
       have c1 := blk_cell g7 1
       have f0 := blk_frozen g7 0
       have f1 := blk_frozen g7 1)
    | (go_at_call 10
       refine (text_any u nano _ (HG.out.below HB7.out) HM.out).mono ?_
       rintro e w8 ⟨rfl, hb8⟩
       rw [HT.out]
       clear c0 c1 f0 f1 d0 d1
       have HB8 := Aside0.mk (below_next HB7.out hb8)
       have g8 := (hb8.block _ (blk_lt g7)).trans g7
       have k8 := (hb8.block _ (blk_lt k7)).trans k7
       have d0 := blk_cell k8 0
       have d1 := blk_cell k8 1
       have c0 := blk_cell g8 0
       have c1 := blk_cell g8 1
       have f0 := blk_frozen g8 0
       have f1 := blk_frozen g8 1))
  obtain ⟨r0, r1⟩ := set_two (y0 := .int .i64 (0)) (y1 := .int .i64 (0)) c0 c1
  refine bodyPost_ret (ret_stamp r0 r1 rfl rfl) rfl ?_
  exact ⟨rfl, (HB8.out.setCell (Nat.le_refl _) _).setCell (Nat.le_refl _) _⟩
set_option maxHeartbeats 1000000 in
set_option maxRecDepth 100000 in
theorem parse_neg0_ok (x a b : List UInt8) (f : Bool) (y : List UInt8)
    (hy : Lib.trimPrefix x [45] = y) (hc : cutAt 46 y = (a, b, f)) (hb : ¬ 9 < b.length) (w : World) (hG : Good w) (hx : x.length ≤ 1000000) (hyl : y.length ≤ 1000000) (hal : a.length ≤ 1000000)
    (sec nano : Int) (hok : Lib.atoiAll a = .ok sec) (hok2 : Lib.atoiAll (padT b) = .ok nano) (hbig : sec ≤ 1099511627776) (hbig2 : nano < 1000000000) (hpre : Lib.hasPrefix x [45] = true) (hn : nano ≤ 0) (u : Int) (hu : IntKind.i64.wrap (-sec) = u) (hm : mayT u nano = true) (ht : textT u nano = x) :
    Calls Tryd.prog 11 #[.string (mkS x)] w fun e w' => e = .returned (gotT (some (u, nano))) ∧ Below w.heap.size w w' := by
  have HG := Aside0.mk hG
  have HB0 := Aside0.mk (below_alloc (Below.refl w.heap.size w) (.cells #[.int .i64 0, .int .i64 0] 24))
  have g0 := heap_alloc_new w (.cells #[.int .i64 0, .int .i64 0] 24)
  have hb' : (b.length : Int) ≤ 9 := by omega
  have HSUB := Aside0.mk (show (9 : Int) - (b.length : Int) = ((9 - b.length : Nat) : Int) by omega)
  obtain ⟨zs, hzs⟩ : ∃ zs, List.replicate (9 - b.length) (48 : UInt8) = zs := ⟨_, rfl⟩
  have hzl : zs.length = 9 - b.length := by rw [← hzs]; simp
  obtain ⟨ps, hps⟩ : ∃ ps, b ++ zs = ps := ⟨_, rfl⟩
  have hpl : ps.length = 9 := by rw [← hps]; simp; omega
  have a3 := fun W => str_add (P := Tryd.prog) (s := mkS b) (t := mkS zs) (a := b) (b := zs) rfl rfl hps (by omega) W
  have hpad : padT b = ps := by unfold padT; rw [hzs, hps]
  have HY := Aside0.mk hy
  have HC := Aside0.mk hc
  have HZ := Aside0.mk hzs
  rw [hpad] at hok2
  have HA := Aside0.mk hok
  have HBD := Aside0.mk hok2
  have HP := Aside0.mk hpre
  have HM := Aside0.mk hm
  have HT := Aside0.mk ht
  clear hG hy hc hzs hps hpad hok hok2 hpre hm ht
  go_enter Tryd.func11, Tryd.ntmps11
  go_wp2_with (first
    | (go_at_call 28; refine (trimPrefix_any x y HY.out _).mono ?_; rintro e w1 ⟨rfl, rfl⟩)
    | (go_at_call 27; refine (cut_any y 46 a b f HC.out _ (HG.out.below HB0.out) (by omega)).mono ?_; rintro e w2 ⟨rfl, hb2⟩; have g2 := (hb2.block _ (blk_lt g0)).trans g0; have HB2 := Aside0.mk (below_next HB0.out hb2))
    | (go_at_call 26; refine (repeat_any (9 - b.length) _ HSUB.out _ (by omega)).mono ?_; rintro e w3 ⟨rfl, hb3⟩; rw [HZ.out]; have g4 := (hb3.block _ (blk_lt g3)).trans g3; have HB4 := Aside0.mk (below_next HB3.out hb3))
    | (go_at_call 29; have hq4 := g4; refine (atoi_okL ps nano _ (by omega) HBD.out).mono ?_; rintro e w5 ⟨rfl, hb5⟩; have g5 := (hb5.block _ (blk_lt g4)).trans g4; have HB5 := Aside0.mk (below_next HB4.out hb5))
    | (go_at_call 29; refine (atoi_okL a sec _ hal HA.out).mono ?_; rintro e w4 ⟨rfl, hb4⟩; have g3 := (hb4.block _ (blk_lt g2)).trans g2; have HB3 := Aside0.mk (below_next HB2.out hb4))
    | (go_at_call 30; refine (hasPrefix_any x true HP.out _).mono ?_; rintro e w6 ⟨rfl, rfl⟩)
    | (go_at_call 13
       have HB6 := Aside0.mk (below_alloc HB5.out (.cells #[.int .i64 u, .int .i64 nano] 24))
       have k6 := heap_alloc_new w5 (.cells #[.int .i64 u, .int .i64 nano] 24)
       have g6 := blk_alloc g5 (.cells #[.int .i64 u, .int .i64 nano] 24)
       refine (may_is u nano true HM.out _).mono ?_
       rintro e w7 ⟨rfl, hb7⟩
       have HB7 := Aside0.mk (below_next HB6.out hb7)
       have g7 := (hb7.block _ (blk_lt g6)).trans g6
       have k7 := (hb7.block _ (blk_lt k6)).trans k6
       have d0 := blk_cell k7 0
       have d1 := blk_cell k7 1
       have c0 := blk_cell g7 0
       have c1 := blk_cell g7 1
       have f0 := blk_frozen g7 0
       have f1 := blk_frozen g7 1)
    | (go_at_call 10
       refine (text_any u nano _ (HG.out.below HB7.out) HM.out).mono ?_
       rintro e w8 ⟨rfl, hb8⟩
       rw [HT.out]
       clear c0 c1 f0 f1 d0 d1
       have HB8 := Aside0.mk (below_next HB7.out hb8)
       have g8 := (hb8.block _ (blk_lt g7)).trans g7
       have k8 := (hb8.block _ (blk_lt k7)).trans k7
       have d0 := blk_cell k8 0
       have d1 := blk_cell k8 1
       have c0 := blk_cell g8 0
       have c1 := blk_cell g8 1
       have f0 := blk_frozen g8 0
       have f1 := blk_frozen g8 1))
  obtain ⟨r0, r1⟩ := set_two (y0 := .int .i64 (u)) (y1 := .int .i64 (nano)) c0 c1
  refine bodyPost_ret (ret_stamp r0 r1 rfl rfl) rfl ?_
  exact ⟨rfl, (HB8.out.setCell (Nat.le_refl _) _).setCell (Nat.le_refl _) _⟩
set_option maxHeartbeats 1000000 in
set_option maxRecDepth 100000 in
theorem parse_neg1_may (x a b : List UInt8) (f : Bool) (y : List UInt8)
    (hy : Lib.trimPrefix x [45] = y) (hc : cutAt 46 y = (a, b, f)) (hb : ¬ 9 < b.length) (w : World) (hG : Good w) (hx : x.length ≤ 1000000) (hyl : y.length ≤ 1000000) (hal : a.length ≤ 1000000)
    (sec nano : Int) (hok : Lib.atoiAll a = .ok sec) (hok2 : Lib.atoiAll (padT b) = .ok nano) (hbig : sec ≤ 1099511627776) (hbig2 : nano < 1000000000) (hpre : Lib.hasPrefix x [45] = true) (hn : 0 < nano) (u v n : Int) (hu : IntKind.i64.wrap (-sec) = u) (hv : IntKind.i64.wrap (u - 1) = v) (hw : 1000000000 - nano = n) (hm : mayT v n = false) :
    Calls Tryd.prog 11 #[.string (mkS x)] w fun e w' => e = .returned (gotT none) ∧ Below w.heap.size w w' := by
  have HG := Aside0.mk hG
  have HB0 := Aside0.mk (below_alloc (Below.refl w.heap.size w) (.cells #[.int .i64 0, .int .i64 0] 24))
  have g0 := heap_alloc_new w (.cells #[.int .i64 0, .int .i64 0] 24)
  have hb' : (b.length : Int) ≤ 9 := by omega
  have HSUB := Aside0.mk (show (9 : Int) - (b.length : Int) = ((9 - b.length : Nat) : Int) by omega)
  obtain ⟨zs, hzs⟩ : ∃ zs, List.replicate (9 - b.length) (48 : UInt8) = zs := ⟨_, rfl⟩
  have hzl : zs.length = 9 - b.length := by rw [← hzs]; simp
  obtain ⟨ps, hps⟩ : ∃ ps, b ++ zs = ps := ⟨_, rfl⟩
  have hpl : ps.length = 9 := by rw [← hps]; simp; omega
  have a3 := fun W => str_add (P := Tryd.prog) (s := mkS b) (t := mkS zs) (a := b) (b := zs) rfl rfl hps (by omega) W
  have hpad : padT b = ps := by unfold padT; rw [hzs, hps]
  have HY := Aside0.mk hy
  have HC := Aside0.mk hc
  have HZ := Aside0.mk hzs
  rw [hpad] at hok2
  have HA := Aside0.mk hok
  have HBD := Aside0.mk hok2
  have HP := Aside0.mk hpre
  have hwn : IntKind.i64.wrap n = n := by rw [IntKind.wrap_i64]; omega
  have HM := Aside0.mk hm
  clear hG hy hc hzs hps hpad hok hok2 hpre hm
  go_enter Tryd.func11, Tryd.ntmps11
  go_wp2_with (first
    | (go_at_call 28; refine (trimPrefix_any x y HY.out _).mono ?_; rintro e w1 ⟨rfl, rfl⟩)
    | (go_at_call 27; refine (cut_any y 46 a b f HC.out _ (HG.out.below HB0.out) (by omega)).mono ?_; rintro e w2 ⟨rfl, hb2⟩; have g2 := (hb2.block _ (blk_lt g0)).trans g0; have HB2 := Aside0.mk (below_next HB0.out hb2))
    | (go_at_call 26; refine (repeat_any (9 - b.length) _ HSUB.out _ (by omega)).mono ?_; rintro e w3 ⟨rfl, hb3⟩; rw [HZ.out]; have g4 := (hb3.block _ (blk_lt g3)).trans g3; have HB4 := Aside0.mk (below_next HB3.out hb3))
    | (go_at_call 29; have hq4 := g4; refine (atoi_okL ps nano _ (by omega) HBD.out).mono ?_; rintro e w5 ⟨rfl, hb5⟩; have g5 := (hb5.block _ (blk_lt g4)).trans g4; have HB5 := Aside0.mk (below_next HB4.out hb5))
    | (go_at_call 29; refine (atoi_okL a sec _ hal HA.out).mono ?_; rintro e w4 ⟨rfl, hb4⟩; have g3 := (hb4.block _ (blk_lt g2)).trans g2; have HB3 := Aside0.mk (below_next HB2.out hb4))
    | (go_at_call 30; refine (hasPrefix_any x true HP.out _).mono ?_; rintro e w6 ⟨rfl, rfl⟩)
    | (go_at_call 13
       have HB6 := Aside0.mk (below_alloc HB5.out (.cells #[.int .i64 v, .int .i64 n] 24))
       have k6 := heap_alloc_new w5 (.cells #[.int .i64 v, .int .i64 n] 24)
       have g6 := blk_alloc g5 (.cells #[.int .i64 v, .int .i64 n] 24)
       refine (may_is v n false HM.out _).mono ?_
       rintro e w7 ⟨rfl, hb7⟩
       have HB7 := Aside0.mk (below_next HB6.out hb7)
       have g7 := (hb7.block _ (blk_lt g6)).trans g6
       have k7 := (hb7.block _ (blk_lt k6)).trans k6
       have d0 := blk_cell k7 0
       have d1 := blk_cell k7 1
       have c0 := blk_cell g7 0
       have c1 := blk_cell g7 1
       have f0 := blk_frozen g7 0
       have f1 := blk_frozen g7 1))
  obtain ⟨r0, r1⟩ := set_two (y0 := .int .i64 (0)) (y1 := .int .i64 (0)) c0 c1
  refine bodyPost_ret (ret_stamp r0 r1 rfl rfl) rfl ?_
  exact ⟨rfl, (HB7.out.setCell (Nat.le_refl _) _).setCell (Nat.le_refl _) _⟩
set_option maxHeartbeats 1000000 in
set_option maxRecDepth 100000 in
theorem parse_neg1_other (x a b : List UInt8) (f : Bool) (y : List UInt8)
    (hy : Lib.trimPrefix x [45] = y) (hc : cutAt 46 y = (a, b, f)) (hb : ¬ 9 < b.length) (w : World) (hG : Good w) (hx : x.length ≤ 1000000) (hyl : y.length ≤ 1000000) (hal : a.length ≤ 1000000)
    (sec nano : Int) (hok : Lib.atoiAll a = .ok sec) (hok2 : Lib.atoiAll (padT b) = .ok nano) (hbig : sec ≤ 1099511627776) (hbig2 : nano < 1000000000) (hpre : Lib.hasPrefix x [45] = true) (hn : 0 < nano) (u v n : Int) (hu : IntKind.i64.wrap (-sec) = u) (hv : IntKind.i64.wrap (u - 1) = v) (hw : 1000000000 - nano = n) (hm : mayT v n = true) (t : List UInt8) (ht : textT v n = t) (hne : ¬ t = x) :
    Calls Tryd.prog 11 #[.string (mkS x)] w fun e w' => e = .returned (gotT none) ∧ Below w.heap.size w w' := by
  have HG := Aside0.mk hG
  have HB0 := Aside0.mk (below_alloc (Below.refl w.heap.size w) (.cells #[.int .i64 0, .int .i64 0] 24))
  have g0 := heap_alloc_new w (.cells #[.int .i64 0, .int .i64 0] 24)
  have hb' : (b.length : Int) ≤ 9 := by omega
  have HSUB := Aside0.mk (show (9 : Int) - (b.length : Int) = ((9 - b.length : Nat) : Int) by omega)
  obtain ⟨zs, hzs⟩ : ∃ zs, List.replicate (9 - b.length) (48 : UInt8) = zs := ⟨_, rfl⟩
  have hzl : zs.length = 9 - b.length := by rw [← hzs]; simp
  obtain ⟨ps, hps⟩ : ∃ ps, b ++ zs = ps := ⟨_, rfl⟩
  have hpl : ps.length = 9 := by rw [← hps]; simp; omega
  have a3 := fun W => str_add (P := Tryd.prog) (s := mkS b) (t := mkS zs) (a := b) (b := zs) rfl rfl hps (by omega) W
  have hpad : padT b = ps := by unfold padT; rw [hzs, hps]
  have HY := Aside0.mk hy
  have HC := Aside0.mk hc
  have HZ := Aside0.mk hzs
  rw [hpad] at hok2
  have HA := Aside0.mk hok
  have HBD := Aside0.mk hok2
  have HP := Aside0.mk hpre
  have hwn : IntKind.i64.wrap n = n := by rw [IntKind.wrap_i64]; omega
  have HM := Aside0.mk hm
  have HT := Aside0.mk ht
  have htl : t.length ≤ 40 := by have := (text_len hm).2; rw [ht] at this; exact this
  have hcmp : (t == x) = false := beq_eq_false_iff_ne.2 hne
  clear hG hy hc hzs hps hpad hok hok2 hpre hm ht hne
  go_enter Tryd.func11, Tryd.ntmps11
  go_wp2_with (first
    | (go_at_call 28; refine (trimPrefix_any x y HY.out _).mono ?_; rintro e w1 ⟨rfl, rfl⟩)
    | (go_at_call 27; refine (cut_any y 46 a b f HC.out _ (HG.out.below HB0.out) (by omega)).mono ?_; rintro e w2 ⟨rfl, hb2⟩; have g2 := (hb2.block _ (blk_lt g0)).trans g0; have HB2 := Aside0.mk (below_next HB0.out hb2))
    | (go_at_call 26; refine (repeat_any (9 - b.length) _ HSUB.out _ (by omega)).mono ?_; rintro e w3 ⟨rfl, hb3⟩; rw [HZ.out]; have g4 := (hb3.block _ (blk_lt g3)).trans g3; have HB4 := Aside0.mk (below_next HB3.out hb3))
    | (go_at_call 29; have hq4 := g4; refine (atoi_okL ps nano _ (by omega) HBD.out).mono ?_; rintro e w5 ⟨rfl, hb5⟩; have g5 := (hb5.block _ (blk_lt g4)).trans g4; have HB5 := Aside0.mk (below_next HB4.out hb5))
    | (go_at_call 29; refine (atoi_okL a sec _ hal HA.out).mono ?_; rintro e w4 ⟨rfl, hb4⟩; have g3 := (hb4.block _ (blk_lt g2)).trans g2; have HB3 := Aside0.mk (below_next HB2.out hb4))
    | (go_at_call 30; refine (hasPrefix_any x true HP.out _).mono ?_; rintro e w6 ⟨rfl, rfl⟩)
    | (go_at_call 13
       have HB6 := Aside0.mk (below_alloc HB5.out (.cells #[.int .i64 v, .int .i64 n] 24))
       have k6 := heap_alloc_new w5 (.cells #[.int .i64 v, .int .i64 n] 24)
       have g6 := blk_alloc g5 (.cells #[.int .i64 v, .int .i64 n] 24)
       refine (may_is v n true HM.out _).mono ?_
       rintro e w7 ⟨rfl, hb7⟩
       have HB7 := Aside0.mk (below_next HB6.out hb7)
       have g7 := (hb7.block _ (blk_lt g6)).trans g6
       have k7 := (hb7.block _ (blk_lt k6)).trans k6
       have d0 := blk_cell k7 0
       have d1 := blk_cell k7 1
       have c0 := blk_cell g7 0
       have c1 := blk_cell g7 1
       have f0 := blk_frozen g7 0
       have f1 := blk_frozen g7 1)
    | (go_at_call 10
       refine (text_any v n _ (HG.out.below HB7.out) HM.out).mono ?_
       rintro e w8 ⟨rfl, hb8⟩
       rw [HT.out]
       clear c0 c1 f0 f1 d0 d1
       have HB8 := Aside0.mk (below_next HB7.out hb8)
       have g8 := (hb8.block _ (blk_lt g7)).trans g7
       have k8 := (hb8.block _ (blk_lt k7)).trans k7
       have d0 := blk_cell k8 0
       have d1 := blk_cell k8 1
       have c0 := blk_cell g8 0
       have c1 := blk_cell g8 1
       have f0 := blk_frozen g8 0
       have f1 := blk_frozen g8 1))
  obtain ⟨r0, r1⟩ := set_two (y0 := .int .i64 (0)) (y1 := .int .i64 (0)) c0 c1
  refine bodyPost_ret (ret_stamp r0 r1 rfl rfl) rfl ?_
  exact ⟨rfl, (HB8.out.setCell (Nat.le_refl _) _).setCell (Nat.le_refl _) _⟩
set_option maxHeartbeats 1000000 in
set_option maxRecDepth 100000 in
theorem parse_neg1_ok (x a b : List UInt8) (f : Bool) (y : List UInt8)
    (hy : Lib.trimPrefix x [45] = y) (hc : cutAt 46 y = (a, b, f)) (hb : ¬ 9 < b.length) (w : World) (hG : Good w) (hx : x.length ≤ 1000000) (hyl : y.length ≤ 1000000) (hal : a.length ≤ 1000000)
    (sec nano : Int) (hok : Lib.atoiAll a = .ok sec) (hok2 : Lib.atoiAll (padT b) = .ok nano) (hbig : sec ≤ 1099511627776) (hbig2 : nano < 1000000000) (hpre : Lib.hasPrefix x [45] = true) (hn : 0 < nano) (u v n : Int) (hu : IntKind.i64.wrap (-sec) = u) (hv : IntKind.i64.wrap (u - 1) = v) (hw : 1000000000 - nano = n) (hm : mayT v n = true) (ht : textT v n = x) :
    Calls Tryd.prog 11 #[.string (mkS x)] w fun e w' => e = .returned (gotT (some (v, n))) ∧ Below w.heap.size w w' := by
  have HG := Aside0.mk hG
  have HB0 := Aside0.mk (below_alloc (Below.refl w.heap.size w) (.cells #[.int .i64 0, .int .i64 0] 24))
  have g0 := heap_alloc_new w (.cells #[.int .i64 0, .int .i64 0] 24)
  have hb' : (b.length : Int) ≤ 9 := by omega
  have HSUB := Aside0.mk (show (9 : Int) - (b.length : Int) = ((9 - b.length : Nat) : Int) by omega)
  obtain ⟨zs, hzs⟩ : ∃ zs, List.replicate (9 - b.length) (48 : UInt8) = zs := ⟨_, rfl⟩
  have hzl : zs.length = 9 - b.length := by rw [← hzs]; simp
  obtain ⟨ps, hps⟩ : ∃ ps, b ++ zs = ps := ⟨_, rfl⟩
  have hpl : ps.length = 9 := by rw [← hps]; simp; omega
  have a3 := fun W => str_add (P := Tryd.prog) (s := mkS b) (t := mkS zs) (a := b) (b := zs) rfl rfl hps (by omega) W
  have hpad : padT b = ps := by unfold padT; rw [hzs, hps]
  have HY := Aside0.mk hy
  have HC := Aside0.mk hc
  have HZ := Aside0.mk hzs
  rw [hpad] at hok2
  have HA := Aside0.mk hok
  have HBD := Aside0.mk hok2
  have HP := Aside0.mk hpre
  have hwn : IntKind.i64.wrap n = n := by rw [IntKind.wrap_i64]; omega
  have HM := Aside0.mk hm
  have HT := Aside0.mk ht
  clear hG hy hc hzs hps hpad hok hok2 hpre hm ht
  go_enter Tryd.func11, Tryd.ntmps11
  go_wp2_with (first
    | (go_at_call 28; refine (trimPrefix_any x y HY.out _).mono ?_; rintro e w1 ⟨rfl, rfl⟩)
    | (go_at_call 27; refine (cut_any y 46 a b f HC.out _ (HG.out.below HB0.out) (by omega)).mono ?_; rintro e w2 ⟨rfl, hb2⟩; have g2 := (hb2.block _ (blk_lt g0)).trans g0; have HB2 := Aside0.mk (below_next HB0.out hb2))
    | (go_at_call 26; refine (repeat_any (9 - b.length) _ HSUB.out _ (by omega)).mono ?_; rintro e w3 ⟨rfl, hb3⟩; rw [HZ.out]; have g4 := (hb3.block _ (blk_lt g3)).trans g3; have HB4 := Aside0.mk (below_next HB3.out hb3))
    | (go_at_call 29; have hq4 := g4; refine (atoi_okL ps nano _ (by omega) HBD.out).mono ?_; rintro e w5 ⟨rfl, hb5⟩; have g5 := (hb5.block _ (blk_lt g4)).trans g4; have HB5 := Aside0.mk (below_next HB4.out hb5))
    | (go_at_call 29; refine (atoi_okL a sec _ hal HA.out).mono ?_; rintro e w4 ⟨rfl, hb4⟩; have g3 := (hb4.block _ (blk_lt g2)).trans g2; have HB3 := Aside0.mk (below_next HB2.out hb4))
    | (go_at_call 30; refine (hasPrefix_any x true HP.out _).mono ?_; rintro e w6 ⟨rfl, rfl⟩)
    | (go_at_call 13
       have HB6 := Aside0.mk (below_alloc HB5.out (.cells #[.int .i64 v, .int .i64 n] 24))
       have k6 := heap_alloc_new w5 (.cells #[.int .i64 v, .int .i64 n] 24)
       have g6 := blk_alloc g5 (.cells #[.int .i64 v, .int .i64 n] 24)
       refine (may_is v n true HM.out _).mono ?_
       rintro e w7 ⟨rfl, hb7⟩
       have HB7 := Aside0.mk (below_next HB6.out hb7)
       have g7 := (hb7.block _ (blk_lt g6)).trans g6
       have k7 := (hb7.block _ (blk_lt k6)).trans k6
       have d0 := blk_cell k7 0
       have d1 := blk_cell k7 1
       have c0 := blk_cell g7 0
       have c1 := blk_cell g7 1
       have f0 := blk_frozen g7 0
       have f1 := blk_frozen g7 1)
    | (go_at_call 10
       refine (text_any v n _ (HG.out.below HB7.out) HM.out).mono ?_
       rintro e w8 ⟨rfl, hb8⟩
       rw [HT.out]
       clear c0 c1 f0 f1 d0 d1
       have HB8 := Aside0.mk (below_next HB7.out hb8)
       have g8 := (hb8.block _ (blk_lt g7)).trans g7
       have k8 := (hb8.block _ (blk_lt k7)).trans k7
       have d0 := blk_cell k8 0
       have d1 := blk_cell k8 1
       have c0 := blk_cell g8 0
       have c1 := blk_cell g8 1
       have f0 := blk_frozen g8 0
       have f1 := blk_frozen g8 1))
  obtain ⟨r0, r1⟩ := set_two (y0 := .int .i64 (v)) (y1 := .int .i64 (n)) c0 c1
  refine bodyPost_ret (ret_stamp r0 r1 rfl rfl) rfl ?_
  exact ⟨rfl, (HB8.out.setCell (Nat.le_refl _) _).setCell (Nat.le_refl _) _⟩
end Go.Proofs.YtfdfpgkfhcmlcaaDoor
