/- stamp.Parse. -/
import Derived.Test.YtfdfpgkfhcmlcaaDoorStampText
import Derived.Laws.ResultCell
set_option linter.unusedVariables false
set_option linter.unusedSimpArgs false
namespace Go.Proofs.YtfdfpgkfhcmlcaaDoor
open Go.RowKit Go.Proofs.YtfdfpgkfhcmlcaaDoorW.PrintWords

def gotT (o : Option (Int × Int)) : Value := match o with
  | some t => .tuple #[.agg #[.int .i64 t.1, .int .i64 t.2], .bool true]
  | none => .tuple #[.agg #[.int .i64 0, .int .i64 0], .bool false]
theorem trimPrefix_any (x y : List UInt8) (h : Lib.trimPrefix x [45] = y) (w : World) :
    Calls Tryd.prog 28 #[.string (mkS x), .string ⟨#[45]⟩] w fun e w' => e = .returned (.string (mkS y)) ∧ w' = w := by
  have h1 := Tryd.strings_TrimPrefix (mkS x) ⟨#[45]⟩ w
  rw [data_mkS, show (⟨#[45]⟩ : ByteArray).data.toList = [45] from rfl, h] at h1
  exact h1
theorem hasPrefix_any (x : List UInt8) (b : Bool) (h : Lib.hasPrefix x [45] = b) (w : World) :
    Calls Tryd.prog 30 #[.string (mkS x), .string ⟨#[45]⟩] w fun e w' => e = .returned (.bool b) ∧ w' = w := by
  have h1 := Tryd.strings_HasPrefix (mkS x) ⟨#[45]⟩ w
  rw [data_mkS, show (⟨#[45]⟩ : ByteArray).data.toList = [45] from rfl, h] at h1
  exact h1
theorem atoi_okL (l : List UInt8) (v : Int) (w : World) (hs : l.length ≤ 1000000) (h : Lib.atoiAll l = .ok v) :
    Calls Tryd.prog 29 #[.string (mkS l)] w fun e w' => e = .returned (.tuple #[.int .i64 v, .nilIface]) ∧ Below w.heap.size w w' :=
  atoi_ok (mkS l) v w (by simp; omega) (by rw [data_mkS]; exact h)
theorem atoi_badL (l : List UInt8) (w : World) (hG : Good w) (hs : l.length ≤ 1000000) (h : ∀ v, Lib.atoiAll l ≠ .ok v) :
    Calls Tryd.prog 29 #[.string (mkS l)] w fun e w' => AtoiBad e ∧ Below w.heap.size w w' :=
  atoi_bad (mkS l) w hG (by simp; omega) (by rw [data_mkS]; exact h)
theorem set_two {w : World} {n : Nat} {x0 x1 y0 y1 : Value} (c0 : w.cell? ⟨n, 0, none⟩ = some x0) (c1 : w.cell? ⟨n, 1, none⟩ = some x1) :
    ((w.setCell ⟨n, 0, none⟩ y0).setCell ⟨n, 1, none⟩ y1).cell? ⟨n, 0, none⟩ = some y0 ∧ ((w.setCell ⟨n, 0, none⟩ y0).setCell ⟨n, 1, none⟩ y1).cell? ⟨n, 1, none⟩ = some y1 := by
  have h1 : (w.setCell ⟨n, 0, none⟩ y0).cell? ⟨n, 1, none⟩ = some x1 := by rw [World.cell?_setCell_other _ _ _ _ (fun h => by simpa using congrArg Addr.off h), c1]
  exact ⟨by rw [World.cell?_setCell_other _ _ _ _ (fun h => by simpa using congrArg Addr.off h), World.cell?_setCell_same _ _ _ c0], World.cell?_setCell_same _ _ _ h1⟩
theorem ret_stamp {W : World} {n : Nat} {s v : Int} {b : Bool} {tmps : Array Value} (h0 : W.cell? ⟨n, 0, none⟩ = some (.int .i64 s)) (h1 : W.cell? ⟨n, 1, none⟩ = some (.int .i64 v)) (hp : tmps.getD 2 undef = .pointer (some ⟨n, 0, none⟩)) (hb : tmps.getD 3 undef = .bool b) :
    (results Tryd.f11 tmps).run Tryd.prog W = .ok (.tuple #[.agg #[.int .i64 s, .int .i64 v], .bool b]) W := by
  rw [results_cell_tmp rfl, hp, hb]
  go_simp
set_option maxHeartbeats 1000000 in
set_option maxRecDepth 100000 in
/-- A rest of too many places. -/
theorem parse_long (x a b : List UInt8) (f : Bool) (y : List UInt8) (hy : Lib.trimPrefix x [45] = y) (hc : cutAt 46 y = (a, b, f)) (hb : 9 < b.length) (w : World) (hG : Good w) (hx : x.length ≤ 1000000) (hyl : y.length ≤ 1000000) :
    Calls Tryd.prog 11 #[.string (mkS x)] w fun e w' => e = .returned (gotT none) ∧ Below w.heap.size w w' := by
  have HG := Aside0.mk hG
  have HB0 := Aside0.mk (below_alloc (Below.refl w.heap.size w) (.cells #[.int .i64 0, .int .i64 0] 24))
  have g0 := heap_alloc_new w (.cells #[.int .i64 0, .int .i64 0] 24)
  have hb' : (9 : Int) < (b.length : Int) := by omega
  have HY := Aside0.mk hy
  have HC := Aside0.mk hc
  clear hG hy hc
  go_enter Tryd.func11, Tryd.ntmps11
  go_wp2_with (first
    | (go_at_call 28; refine (trimPrefix_any x y HY.out _).mono ?_; rintro e w1 ⟨rfl, rfl⟩)
    | (go_at_call 27; refine (cut_any y 46 a b f HC.out _ (HG.out.below HB0.out) (by omega)).mono ?_; rintro e w2 ⟨rfl, hb2⟩; have g2 := (hb2.block _ (blk_lt g0)).trans g0; have c0 := blk_cell g2 0; have c1 := blk_cell g2 1; have f0 := blk_frozen g2 0; have f1 := blk_frozen g2 1; have HB2 := Aside0.mk (below_next HB0.out hb2)))
  obtain ⟨r0, r1⟩ := set_two (y0 := .int .i64 0) (y1 := .int .i64 0) c0 c1
  refine bodyPost_ret (ret_stamp r0 r1 rfl rfl) rfl ?_
  exact ⟨rfl, (HB2.out.setCell (Nat.le_refl _) _).setCell (Nat.le_refl _) _⟩
theorem atoi_either (l : List UInt8) (w : World) (hG : Good w) (hs : l.length ≤ 1000000) :
    Calls Tryd.prog 29 #[.string (mkS l)] w fun e w' => (∃ v ev, e = .returned (.tuple #[.int .i64 v, ev])) ∧ Below w.heap.size w w' := by
  by_cases h : ∃ v, Lib.atoiAll l = .ok v
  · obtain ⟨v, hv⟩ := h
    exact (atoi_okL l v w hs hv).mono fun e w' ⟨he, hb⟩ => ⟨⟨_, _, he⟩, hb⟩
  · exact (atoi_badL l w hG hs (fun v hv => h ⟨v, hv⟩)).mono fun e w' ⟨⟨v, te, p, he⟩, hb⟩ => ⟨⟨_, _, he⟩, hb⟩
set_option maxHeartbeats 1000000 in
set_option maxRecDepth 100000 in
/-- A whole part that is no number. -/
theorem parse_bad1 (x a b : List UInt8) (f : Bool) (y : List UInt8)
    (hy : Lib.trimPrefix x [45] = y) (hc : cutAt 46 y = (a, b, f)) (hb : ¬ 9 < b.length) (w : World) (hG : Good w) (hx : x.length ≤ 1000000) (hyl : y.length ≤ 1000000) (hal : a.length ≤ 1000000) (hbad : ∀ v, Lib.atoiAll a ≠ .ok v) :
    Calls Tryd.prog 11 #[.string (mkS x)] w fun e w' => e = .returned (gotT none) ∧ Below w.heap.size w w' := by
  have HG := Aside0.mk hG
  have HB0 := Aside0.mk (below_alloc (Below.refl w.heap.size w) (.cells #[.int .i64 0, .int .i64 0] 24))
  have g0 := heap_alloc_new w (.cells #[.int .i64 0, .int .i64 0] 24)
  have hb' : (b.length : Int) ≤ 9 := by omega
  have HSUB := Aside0.mk (show (9 : Int) - (b.length : Int) = ((9 - b.length : Nat) : Int) by omega)
  obtain ⟨zs, hzs⟩ : ∃ zs, List.replicate (9 - b.length) (48 : UInt8) = zs := ⟨_, rfl⟩
  have hzl : zs.length = 9 - b.length := by rw [← hzs]; simp
  obtain ⟨ps, hps⟩ : ∃ ps, b ++ zs = ps := ⟨_, rfl⟩
  have hpl : ps.length = 9 := by rw [← hps]; simp; omega
  have a3 := fun W => str_add (P := Tryd.prog) (s := mkS b) (t := mkS zs) (a := b) (b := zs) rfl rfl hps (by omega) W
  have hpad : padT b = ps := by unfold padT; rw [hzs, hps]
  have HY := Aside0.mk hy
  have HC := Aside0.mk hc
  have HZ := Aside0.mk hzs
  have HA := Aside0.mk hbad
  clear hbad
  clear hG hy hc hzs hps hpad
  go_enter Tryd.func11, Tryd.ntmps11
  go_wp2_with (first
    | (go_at_call 28; refine (trimPrefix_any x y HY.out _).mono ?_; rintro e w1 ⟨rfl, rfl⟩)
    | (go_at_call 27; refine (cut_any y 46 a b f HC.out _ (HG.out.below HB0.out) (by omega)).mono ?_; rintro e w2 ⟨rfl, hb2⟩; have g2 := (hb2.block _ (blk_lt g0)).trans g0; have HB2 := Aside0.mk (below_next HB0.out hb2))
    | (go_at_call 26; refine (repeat_any (9 - b.length) _ HSUB.out _ (by omega)).mono ?_; rintro e w3 ⟨rfl, hb3⟩; rw [HZ.out]; have g4 := (hb3.block _ (blk_lt g3)).trans g3; have HB4 := Aside0.mk (below_next HB3.out hb3))
    | (go_at_call 29; refine (atoi_either ps _ (HG.out.below HB4.out) (by omega)).mono ?_; rintro e w5 ⟨⟨vb, eb, rfl⟩, hb5⟩; have g5 := (hb5.block _ (blk_lt g4)).trans g4; have HB5 := Aside0.mk (below_next HB4.out hb5); have c0 := blk_cell g5 0; have c1 := blk_cell g5 1; have f0 := blk_frozen g5 0; have f1 := blk_frozen g5 1)
    | (go_at_call 29; refine (atoi_badL a _ (HG.out.below HB2.out) hal HA.out).mono ?_; rintro e w4 ⟨⟨va, te, pe, rfl⟩, hb4⟩; have g3 := (hb4.block _ (blk_lt g2)).trans g2; have HB3 := Aside0.mk (below_next HB2.out hb4)))
  obtain ⟨r0, r1⟩ := set_two (y0 := .int .i64 0) (y1 := .int .i64 0) c0 c1
  refine bodyPost_ret (ret_stamp r0 r1 rfl rfl) rfl ?_
  exact ⟨rfl, (HB5.out.setCell (Nat.le_refl _) _).setCell (Nat.le_refl _) _⟩
set_option maxHeartbeats 1000000 in
set_option maxRecDepth 100000 in
/-- A rest that is no number. -/
theorem parse_bad2 (x a b : List UInt8) (f : Bool) (y : List UInt8)
    (hy : Lib.trimPrefix x [45] = y) (hc : cutAt 46 y = (a, b, f)) (hb : ¬ 9 < b.length) (w : World) (hG : Good w) (hx : x.length ≤ 1000000) (hyl : y.length ≤ 1000000) (hal : a.length ≤ 1000000) (sec : Int) (hok : Lib.atoiAll a = .ok sec) (hbad : ∀ v, Lib.atoiAll (padT b) ≠ .ok v) :
    Calls Tryd.prog 11 #[.string (mkS x)] w fun e w' => e = .returned (gotT none) ∧ Below w.heap.size w w' := by
  have HG := Aside0.mk hG
  have HB0 := Aside0.mk (below_alloc (Below.refl w.heap.size w) (.cells #[.int .i64 0, .int .i64 0] 24))
  have g0 := heap_alloc_new w (.cells #[.int .i64 0, .int .i64 0] 24)
  have hb' : (b.length : Int) ≤ 9 := by omega
  have HSUB := Aside0.mk (show (9 : Int) - (b.length : Int) = ((9 - b.length : Nat) : Int) by omega)
  obtain ⟨zs, hzs⟩ : ∃ zs, List.replicate (9 - b.length) (48 : UInt8) = zs := ⟨_, rfl⟩
  have hzl : zs.length = 9 - b.length := by rw [← hzs]; simp
  obtain ⟨ps, hps⟩ : ∃ ps, b ++ zs = ps := ⟨_, rfl⟩
  have hpl : ps.length = 9 := by rw [← hps]; simp; omega
  have a3 := fun W => str_add (P := Tryd.prog) (s := mkS b) (t := mkS zs) (a := b) (b := zs) rfl rfl hps (by omega) W
  have hpad : padT b = ps := by unfold padT; rw [hzs, hps]
  have HY := Aside0.mk hy
  have HC := Aside0.mk hc
  have HZ := Aside0.mk hzs
  rw [hpad] at hbad
  have HA := Aside0.mk hok
  have HBD := Aside0.mk hbad
  clear hbad hok
  clear hG hy hc hzs hps hpad
  go_enter Tryd.func11, Tryd.ntmps11
  go_wp2_with (first
    | (go_at_call 28; refine (trimPrefix_any x y HY.out _).mono ?_; rintro e w1 ⟨rfl, rfl⟩)
    | (go_at_call 27; refine (cut_any y 46 a b f HC.out _ (HG.out.below HB0.out) (by omega)).mono ?_; rintro e w2 ⟨rfl, hb2⟩; have g2 := (hb2.block _ (blk_lt g0)).trans g0; have HB2 := Aside0.mk (below_next HB0.out hb2))
    | (go_at_call 26; refine (repeat_any (9 - b.length) _ HSUB.out _ (by omega)).mono ?_; rintro e w3 ⟨rfl, hb3⟩; rw [HZ.out]; have g4 := (hb3.block _ (blk_lt g3)).trans g3; have HB4 := Aside0.mk (below_next HB3.out hb3))
    | (go_at_call 29; refine (atoi_badL ps _ (HG.out.below HB4.out) (by omega) HBD.out).mono ?_; rintro e w5 ⟨⟨vb, te, pe, rfl⟩, hb5⟩; have g5 := (hb5.block _ (blk_lt g4)).trans g4; have HB5 := Aside0.mk (below_next HB4.out hb5); have c0 := blk_cell g5 0; have c1 := blk_cell g5 1; have f0 := blk_frozen g5 0; have f1 := blk_frozen g5 1)
    | (go_at_call 29; refine (atoi_okL a sec _ hal HA.out).mono ?_; rintro e w4 ⟨rfl, hb4⟩; have g3 := (hb4.block _ (blk_lt g2)).trans g2; have HB3 := Aside0.mk (below_next HB2.out hb4)))
  obtain ⟨r0, r1⟩ := set_two (y0 := .int .i64 0) (y1 := .int .i64 0) c0 c1
  refine bodyPost_ret (ret_stamp r0 r1 rfl rfl) rfl ?_
  exact ⟨rfl, (HB5.out.setCell (Nat.le_refl _) _).setCell (Nat.le_refl _) _⟩
set_option maxHeartbeats 1000000 in
set_option maxRecDepth 100000 in
/-- A whole part beyond the last. -/
theorem parse_bad3 (x a b : List UInt8) (f : Bool) (y : List UInt8)
    (hy : Lib.trimPrefix x [45] = y) (hc : cutAt 46 y = (a, b, f)) (hb : ¬ 9 < b.length) (w : World) (hG : Good w) (hx : x.length ≤ 1000000) (hyl : y.length ≤ 1000000) (hal : a.length ≤ 1000000) (sec nano : Int) (hok : Lib.atoiAll a = .ok sec) (hok2 : Lib.atoiAll (padT b) = .ok nano) (hbig : 1099511627776 < sec) :
    Calls Tryd.prog 11 #[.string (mkS x)] w fun e w' => e = .returned (gotT none) ∧ Below w.heap.size w w' := by
  have HG := Aside0.mk hG
  have HB0 := Aside0.mk (below_alloc (Below.refl w.heap.size w) (.cells #[.int .i64 0, .int .i64 0] 24))
  have g0 := heap_alloc_new w (.cells #[.int .i64 0, .int .i64 0] 24)
  have hb' : (b.length : Int) ≤ 9 := by omega
  have HSUB := Aside0.mk (show (9 : Int) - (b.length : Int) = ((9 - b.length : Nat) : Int) by omega)
  obtain ⟨zs, hzs⟩ : ∃ zs, List.replicate (9 - b.length) (48 : UInt8) = zs := ⟨_, rfl⟩
  have hzl : zs.length = 9 - b.length := by rw [← hzs]; simp
  obtain ⟨ps, hps⟩ : ∃ ps, b ++ zs = ps := ⟨_, rfl⟩
  have hpl : ps.length = 9 := by rw [← hps]; simp; omega
  have a3 := fun W => str_add (P := Tryd.prog) (s := mkS b) (t := mkS zs) (a := b) (b := zs) rfl rfl hps (by omega) W
  have hpad : padT b = ps := by unfold padT; rw [hzs, hps]
  have HY := Aside0.mk hy
  have HC := Aside0.mk hc
  have HZ := Aside0.mk hzs
  rw [hpad] at hok2
  have HA := Aside0.mk hok
  have HBD := Aside0.mk hok2
  clear hok2 hok
  clear hG hy hc hzs hps hpad
  go_enter Tryd.func11, Tryd.ntmps11
  go_wp2_with (first
    | (go_at_call 28; refine (trimPrefix_any x y HY.out _).mono ?_; rintro e w1 ⟨rfl, rfl⟩)
    | (go_at_call 27; refine (cut_any y 46 a b f HC.out _ (HG.out.below HB0.out) (by omega)).mono ?_; rintro e w2 ⟨rfl, hb2⟩; have g2 := (hb2.block _ (blk_lt g0)).trans g0; have HB2 := Aside0.mk (below_next HB0.out hb2))
    | (go_at_call 26; refine (repeat_any (9 - b.length) _ HSUB.out _ (by omega)).mono ?_; rintro e w3 ⟨rfl, hb3⟩; rw [HZ.out]; have g4 := (hb3.block _ (blk_lt g3)).trans g3; have HB4 := Aside0.mk (below_next HB3.out hb3))
    | (go_at_call 29; have hq4 := g4; refine (atoi_okL ps nano _ (by omega) HBD.out).mono ?_; rintro e w5 ⟨rfl, hb5⟩; have g5 := (hb5.block _ (blk_lt g4)).trans g4; have HB5 := Aside0.mk (below_next HB4.out hb5); have c0 := blk_cell g5 0; have c1 := blk_cell g5 1; have f0 := blk_frozen g5 0; have f1 := blk_frozen g5 1)
    | (go_at_call 29; refine (atoi_okL a sec _ hal HA.out).mono ?_; rintro e w4 ⟨rfl, hb4⟩; have g3 := (hb4.block _ (blk_lt g2)).trans g2; have HB3 := Aside0.mk (below_next HB2.out hb4)))
  obtain ⟨r0, r1⟩ := set_two (y0 := .int .i64 0) (y1 := .int .i64 0) c0 c1
  refine bodyPost_ret (ret_stamp r0 r1 rfl rfl) rfl ?_
  exact ⟨rfl, (HB5.out.setCell (Nat.le_refl _) _).setCell (Nat.le_refl _) _⟩
set_option maxHeartbeats 1000000 in
set_option maxRecDepth 100000 in
/-- A rest of a whole second. -/
theorem parse_bad4 (x a b : List UInt8) (f : Bool) (y : List UInt8)
    (hy : Lib.trimPrefix x [45] = y) (hc : cutAt 46 y = (a, b, f)) (hb : ¬ 9 < b.length) (w : World) (hG : Good w) (hx : x.length ≤ 1000000) (hyl : y.length ≤ 1000000) (hal : a.length ≤ 1000000) (sec nano : Int) (hok : Lib.atoiAll a = .ok sec) (hok2 : Lib.atoiAll (padT b) = .ok nano) (hbig : sec ≤ 1099511627776) (hbig2 : 1000000000 ≤ nano) :
    Calls Tryd.prog 11 #[.string (mkS x)] w fun e w' => e = .returned (gotT none) ∧ Below w.heap.size w w' := by
  have HG := Aside0.mk hG
  have HB0 := Aside0.mk (below_alloc (Below.refl w.heap.size w) (.cells #[.int .i64 0, .int .i64 0] 24))
  have g0 := heap_alloc_new w (.cells #[.int .i64 0, .int .i64 0] 24)
  have hb' : (b.length : Int) ≤ 9 := by omega
  have HSUB := Aside0.mk (show (9 : Int) - (b.length : Int) = ((9 - b.length : Nat) : Int) by omega)
  obtain ⟨zs, hzs⟩ : ∃ zs, List.replicate (9 - b.length) (48 : UInt8) = zs := ⟨_, rfl⟩
  have hzl : zs.length = 9 - b.length := by rw [← hzs]; simp
  obtain ⟨ps, hps⟩ : ∃ ps, b ++ zs = ps := ⟨_, rfl⟩
  have hpl : ps.length = 9 := by rw [← hps]; simp; omega
  have a3 := fun W => str_add (P := Tryd.prog) (s := mkS b) (t := mkS zs) (a := b) (b := zs) rfl rfl hps (by omega) W
  have hpad : padT b = ps := by unfold padT; rw [hzs, hps]
  have HY := Aside0.mk hy
  have HC := Aside0.mk hc
  have HZ := Aside0.mk hzs
  rw [hpad] at hok2
  have HA := Aside0.mk hok
  have HBD := Aside0.mk hok2
  clear hok2 hok
  clear hG hy hc hzs hps hpad
  go_enter Tryd.func11, Tryd.ntmps11
  go_wp2_with (first
    | (go_at_call 28; refine (trimPrefix_any x y HY.out _).mono ?_; rintro e w1 ⟨rfl, rfl⟩)
    | (go_at_call 27; refine (cut_any y 46 a b f HC.out _ (HG.out.below HB0.out) (by omega)).mono ?_; rintro e w2 ⟨rfl, hb2⟩; have g2 := (hb2.block _ (blk_lt g0)).trans g0; have HB2 := Aside0.mk (below_next HB0.out hb2))
    | (go_at_call 26; refine (repeat_any (9 - b.length) _ HSUB.out _ (by omega)).mono ?_; rintro e w3 ⟨rfl, hb3⟩; rw [HZ.out]; have g4 := (hb3.block _ (blk_lt g3)).trans g3; have HB4 := Aside0.mk (below_next HB3.out hb3))
    | (go_at_call 29; have hq4 := g4; refine (atoi_okL ps nano _ (by omega) HBD.out).mono ?_; rintro e w5 ⟨rfl, hb5⟩; have g5 := (hb5.block _ (blk_lt g4)).trans g4; have HB5 := Aside0.mk (below_next HB4.out hb5); have c0 := blk_cell g5 0; have c1 := blk_cell g5 1; have f0 := blk_frozen g5 0; have f1 := blk_frozen g5 1)
    | (go_at_call 29; refine (atoi_okL a sec _ hal HA.out).mono ?_; rintro e w4 ⟨rfl, hb4⟩; have g3 := (hb4.block _ (blk_lt g2)).trans g2; have HB3 := Aside0.mk (below_next HB2.out hb4)))
  obtain ⟨r0, r1⟩ := set_two (y0 := .int .i64 0) (y1 := .int .i64 0) c0 c1
  refine bodyPost_ret (ret_stamp r0 r1 rfl rfl) rfl ?_
  exact ⟨rfl, (HB5.out.setCell (Nat.le_refl _) _).setCell (Nat.le_refl _) _⟩
end Go.Proofs.YtfdfpgkfhcmlcaaDoor
