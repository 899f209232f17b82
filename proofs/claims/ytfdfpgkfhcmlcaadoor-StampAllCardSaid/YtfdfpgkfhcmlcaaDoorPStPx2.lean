-- Laid by this session's prt.py (the kit's print.py, some callees proved by hand).
import Derived.Test.YtfdfpgkfhcmlcaaDoorPStPx0
import Derived.Test.YtfdfpgkfhcmlcaaDoorPStPx1
namespace Go.Proofs.YtfdfpgkfhcmlcaaDoor.PStP
open Go.RowKit Go.Proofs.YtfdfpgkfhcmlcaaDoorW.PrintWords Go.Proofs.YtfdfpgkfhcmlcaaDoorW.PrintLast Go.Proofs.YtfdfpgkfhcmlcaaDoorW.PrintMore
attribute [local go_sem] max2_int min2_int max_two min_two max_three min_three max_four min_four   -- for this text's walks alone
set_option linter.unusedVariables false
set_option linter.unusedSimpArgs false

/-! ### gripsackref1_ParseStamp: function 14 -/
mutual
def gripsackref1_ParseStamp.j0 : Nat → ByteArray → Bool → Option (Int × Int × Bool)
  | 0, _, _ => none
  | k + 1, x0, x15 => if x15 = true then (some (0, 0, false)) else (if 0 < (x0.size : Int) then (if (bt x0 0) = 45 then (gripsackref1_ParseStamp.j1 k x0 0 0 1) else (gripsackref1_ParseStamp.j1 k x0 0 0 0)) else (none))
def gripsackref1_ParseStamp.j1 : Nat → ByteArray → Int → Int → Int → Option (Int × Int × Bool)
  | 0, _, _, _, _ => none
  | k + 1, x0, x3, x4, x5 => gripsackref1_ParseStamp.l0 k x0 x3 x4 x5
def gripsackref1_ParseStamp.j3 : Nat → ByteArray → Int → Int → Int → Option (Int × Int × Bool)
  | 0, _, _, _, _ => none
  | k + 1, x0, x3, x4, x5 => if x5 < (x0.size : Int) then (if 0 ≤ x5 then (gripsackref1_ParseStamp.j4 k x0 x3 x4 x5 ((bt x0 x5) == 46)) else (none)) else (gripsackref1_ParseStamp.j4 k x0 x3 x4 x5 false)
def gripsackref1_ParseStamp.j4 : Nat → ByteArray → Int → Int → Int → Bool → Option (Int × Int × Bool)
  | 0, _, _, _, _, _ => none
  | k + 1, x0, x3, x4, x5, x59 => if x59 = true then (gripsackref1_ParseStamp.l1 k x0 x3 x4 x5 1) else (gripsackref1_ParseStamp.j6 k x0 x3 x4)
def gripsackref1_ParseStamp.j6 : Nat → ByteArray → Int → Int → Option (Int × Int × Bool)
  | 0, _, _, _ => none
  | k + 1, x0, x3, x4 => if 0 < (x0.size : Int) then (if (bt x0 0) = 45 then (if x4 > 0 then (gripsackref1_ParseStamp.j7 k x0 (wrap64 ((wrap64 (-x3)) - 1)) (wrap64 (1000000000 - x4))) else (gripsackref1_ParseStamp.j7 k x0 (wrap64 (-x3)) x4)) else (gripsackref1_ParseStamp.j7 k x0 x3 x4)) else (none)
def gripsackref1_ParseStamp.j7 : Nat → ByteArray → Int → Int → Option (Int × Int × Bool)
  | 0, _, _, _ => none
  | k + 1, x0, x104000, x104001 => (gripsackref1_MayStamp.f x104000 x104001).bind fun t104 => (if t104 = true then ((gripsackref1_TextStamp.f x104000 x104001).bind fun t105 => (if t105.toList = x0.toList then (some (x104000, x104001, true)) else (some (0, 0, false)))) else (some (0, 0, false)))
def gripsackref1_ParseStamp.l1 : Nat → ByteArray → Int → Int → Int → Int → Option (Int × Int × Bool)
  | 0, _, _, _, _, _ => none
  | k + 1, x0, x3, x4, x5, x6 => if x6 ≤ 9 then (if (wrap64 (x5 + x6)) < (x0.size : Int) then (if 0 ≤ (wrap64 (x5 + x6)) then (if (bt x0 (wrap64 (x5 + x6))) ≥ 48 then (if (bt x0 (wrap64 (x5 + x6))) ≤ 57 then (gripsackref1_ParseStamp.l1 k x0 x3 (wrap64 ((wrap64 (x4 * 10)) + (((bt x0 (wrap64 (x5 + x6))) - 48) % 256))) x5 (wrap64 (x6 + 1))) else (gripsackref1_ParseStamp.l1 k x0 x3 (wrap64 (x4 * 10)) x5 (wrap64 (x6 + 1)))) else (gripsackref1_ParseStamp.l1 k x0 x3 (wrap64 (x4 * 10)) x5 (wrap64 (x6 + 1)))) else (none)) else (gripsackref1_ParseStamp.l1 k x0 x3 (wrap64 (x4 * 10)) x5 (wrap64 (x6 + 1)))) else (gripsackref1_ParseStamp.j6 k x0 x3 x4)
def gripsackref1_ParseStamp.l0 : Nat → ByteArray → Int → Int → Int → Option (Int × Int × Bool)
  | 0, _, _, _, _ => none
  | k + 1, x0, x3, x4, x5 => if x5 < (x0.size : Int) then (if 0 ≤ x5 then (if (bt x0 x5) ≥ 48 then (if (bt x0 x5) ≤ 57 then (if x3 ≤ 1099511627776 then (gripsackref1_ParseStamp.l0 k x0 (wrap64 ((wrap64 (x3 * 10)) + (((bt x0 x5) - 48) % 256))) x4 (wrap64 (x5 + 1))) else (gripsackref1_ParseStamp.j3 k x0 x3 x4 x5)) else (gripsackref1_ParseStamp.j3 k x0 x3 x4 x5)) else (gripsackref1_ParseStamp.j3 k x0 x3 x4 x5)) else (none)) else (gripsackref1_ParseStamp.j3 k x0 x3 x4 x5)
end
def gripsackref1_ParseStamp.f (k : Nat) (a0 : ByteArray) : Option (Int × Int × Bool) := if (a0.size : Int) = 0 then (gripsackref1_ParseStamp.j0 k a0 true) else (gripsackref1_ParseStamp.j0 k a0 (decide ((a0.size : Int) > 30)))
theorem gripsackref1_ParseStamp.mono_l : ∀ k, (∀ y0 y1, LeO (gripsackref1_ParseStamp.j0 k y0 y1) (gripsackref1_ParseStamp.j0 (k + 1) y0 y1)) ∧ (∀ y0 y1 y2 y3, LeO (gripsackref1_ParseStamp.j1 k y0 y1 y2 y3) (gripsackref1_ParseStamp.j1 (k + 1) y0 y1 y2 y3)) ∧ (∀ y0 y1 y2 y3, LeO (gripsackref1_ParseStamp.j3 k y0 y1 y2 y3) (gripsackref1_ParseStamp.j3 (k + 1) y0 y1 y2 y3)) ∧ (∀ y0 y1 y2 y3 y4, LeO (gripsackref1_ParseStamp.j4 k y0 y1 y2 y3 y4) (gripsackref1_ParseStamp.j4 (k + 1) y0 y1 y2 y3 y4)) ∧ (∀ y0 y1 y2, LeO (gripsackref1_ParseStamp.j6 k y0 y1 y2) (gripsackref1_ParseStamp.j6 (k + 1) y0 y1 y2)) ∧ (∀ y0 y1 y2, LeO (gripsackref1_ParseStamp.j7 k y0 y1 y2) (gripsackref1_ParseStamp.j7 (k + 1) y0 y1 y2)) ∧ (∀ y0 y1 y2 y3 y4, LeO (gripsackref1_ParseStamp.l1 k y0 y1 y2 y3 y4) (gripsackref1_ParseStamp.l1 (k + 1) y0 y1 y2 y3 y4)) ∧ (∀ y0 y1 y2 y3, LeO (gripsackref1_ParseStamp.l0 k y0 y1 y2 y3) (gripsackref1_ParseStamp.l0 (k + 1) y0 y1 y2 y3))
  | 0 => ⟨fun _ _ r h => by simp [gripsackref1_ParseStamp.j0] at h, fun _ _ _ _ r h => by simp [gripsackref1_ParseStamp.j1] at h, fun _ _ _ _ r h => by simp [gripsackref1_ParseStamp.j3] at h, fun _ _ _ _ _ r h => by simp [gripsackref1_ParseStamp.j4] at h, fun _ _ _ r h => by simp [gripsackref1_ParseStamp.j6] at h, fun _ _ _ r h => by simp [gripsackref1_ParseStamp.j7] at h, fun _ _ _ _ _ r h => by simp [gripsackref1_ParseStamp.l1] at h, fun _ _ _ _ r h => by simp [gripsackref1_ParseStamp.l0] at h⟩
  | k + 1 => by
    obtain ⟨ih0, ih1, ih2, ih3, ih4, ih5, ih6, ih7⟩ := gripsackref1_ParseStamp.mono_l k
    refine ⟨?_, ?_, ?_, ?_, ?_, ?_, ?_, ?_⟩
    · intro y0 y1
      unfold gripsackref1_ParseStamp.j0
      repeat' first
      | (with_reducible exact ih0 _ _)
      | (with_reducible exact ih1 _ _ _ _)
      | (with_reducible exact ih2 _ _ _ _)
      | (with_reducible exact ih3 _ _ _ _ _)
      | (with_reducible exact ih4 _ _ _)
      | (with_reducible exact ih5 _ _ _)
      | (with_reducible exact ih6 _ _ _ _ _)
      | (with_reducible exact ih7 _ _ _ _)
      | (with_reducible exact LeO.refl _)
      | (with_reducible exact LeO.none _)
      | (with_reducible refine LeO.ite ?_ ?_)
      | (with_reducible refine LeO.bind ?_ (fun _ => ?_))
      | exact ih0 _ _
      | exact ih1 _ _ _ _
      | exact ih2 _ _ _ _
      | exact ih3 _ _ _ _ _
      | exact ih4 _ _ _
      | exact ih5 _ _ _
      | exact ih6 _ _ _ _ _
      | exact ih7 _ _ _ _
      | exact LeO.none _
      | refine LeO.ite ?_ ?_
      | refine LeO.bind ?_ (fun _ => ?_)
    · intro y0 y1 y2 y3
      unfold gripsackref1_ParseStamp.j1
      repeat' first
      | (with_reducible exact ih0 _ _)
      | (with_reducible exact ih1 _ _ _ _)
      | (with_reducible exact ih2 _ _ _ _)
      | (with_reducible exact ih3 _ _ _ _ _)
      | (with_reducible exact ih4 _ _ _)
      | (with_reducible exact ih5 _ _ _)
      | (with_reducible exact ih6 _ _ _ _ _)
      | (with_reducible exact ih7 _ _ _ _)
      | (with_reducible exact LeO.refl _)
      | (with_reducible exact LeO.none _)
      | (with_reducible refine LeO.ite ?_ ?_)
      | (with_reducible refine LeO.bind ?_ (fun _ => ?_))
      | exact ih0 _ _
      | exact ih1 _ _ _ _
      | exact ih2 _ _ _ _
      | exact ih3 _ _ _ _ _
      | exact ih4 _ _ _
      | exact ih5 _ _ _
      | exact ih6 _ _ _ _ _
      | exact ih7 _ _ _ _
      | exact LeO.none _
      | refine LeO.ite ?_ ?_
      | refine LeO.bind ?_ (fun _ => ?_)
    · intro y0 y1 y2 y3
      unfold gripsackref1_ParseStamp.j3
      repeat' first
      | (with_reducible exact ih0 _ _)
      | (with_reducible exact ih1 _ _ _ _)
      | (with_reducible exact ih2 _ _ _ _)
      | (with_reducible exact ih3 _ _ _ _ _)
      | (with_reducible exact ih4 _ _ _)
      | (with_reducible exact ih5 _ _ _)
      | (with_reducible exact ih6 _ _ _ _ _)
      | (with_reducible exact ih7 _ _ _ _)
      | (with_reducible exact LeO.refl _)
      | (with_reducible exact LeO.none _)
      | (with_reducible refine LeO.ite ?_ ?_)
      | (with_reducible refine LeO.bind ?_ (fun _ => ?_))
      | exact ih0 _ _
      | exact ih1 _ _ _ _
      | exact ih2 _ _ _ _
      | exact ih3 _ _ _ _ _
      | exact ih4 _ _ _
      | exact ih5 _ _ _
      | exact ih6 _ _ _ _ _
      | exact ih7 _ _ _ _
      | exact LeO.none _
      | refine LeO.ite ?_ ?_
      | refine LeO.bind ?_ (fun _ => ?_)
    · intro y0 y1 y2 y3 y4
      unfold gripsackref1_ParseStamp.j4
      repeat' first
      | (with_reducible exact ih0 _ _)
      | (with_reducible exact ih1 _ _ _ _)
      | (with_reducible exact ih2 _ _ _ _)
      | (with_reducible exact ih3 _ _ _ _ _)
      | (with_reducible exact ih4 _ _ _)
      | (with_reducible exact ih5 _ _ _)
      | (with_reducible exact ih6 _ _ _ _ _)
      | (with_reducible exact ih7 _ _ _ _)
      | (with_reducible exact LeO.refl _)
      | (with_reducible exact LeO.none _)
      | (with_reducible refine LeO.ite ?_ ?_)
      | (with_reducible refine LeO.bind ?_ (fun _ => ?_))
      | exact ih0 _ _
      | exact ih1 _ _ _ _
      | exact ih2 _ _ _ _
      | exact ih3 _ _ _ _ _
      | exact ih4 _ _ _
      | exact ih5 _ _ _
      | exact ih6 _ _ _ _ _
      | exact ih7 _ _ _ _
      | exact LeO.none _
      | refine LeO.ite ?_ ?_
      | refine LeO.bind ?_ (fun _ => ?_)
    · intro y0 y1 y2
      unfold gripsackref1_ParseStamp.j6
      repeat' first
      | (with_reducible exact ih0 _ _)
      | (with_reducible exact ih1 _ _ _ _)
      | (with_reducible exact ih2 _ _ _ _)
      | (with_reducible exact ih3 _ _ _ _ _)
      | (with_reducible exact ih4 _ _ _)
      | (with_reducible exact ih5 _ _ _)
      | (with_reducible exact ih6 _ _ _ _ _)
      | (with_reducible exact ih7 _ _ _ _)
      | (with_reducible exact LeO.refl _)
      | (with_reducible exact LeO.none _)
      | (with_reducible refine LeO.ite ?_ ?_)
      | (with_reducible refine LeO.bind ?_ (fun _ => ?_))
      | exact ih0 _ _
      | exact ih1 _ _ _ _
      | exact ih2 _ _ _ _
      | exact ih3 _ _ _ _ _
      | exact ih4 _ _ _
      | exact ih5 _ _ _
      | exact ih6 _ _ _ _ _
      | exact ih7 _ _ _ _
      | exact LeO.none _
      | refine LeO.ite ?_ ?_
      | refine LeO.bind ?_ (fun _ => ?_)
    · intro y0 y1 y2
      unfold gripsackref1_ParseStamp.j7
      repeat' first
      | (with_reducible exact ih0 _ _)
      | (with_reducible exact ih1 _ _ _ _)
      | (with_reducible exact ih2 _ _ _ _)
      | (with_reducible exact ih3 _ _ _ _ _)
      | (with_reducible exact ih4 _ _ _)
      | (with_reducible exact ih5 _ _ _)
      | (with_reducible exact ih6 _ _ _ _ _)
      | (with_reducible exact ih7 _ _ _ _)
      | (with_reducible exact LeO.refl _)
      | (with_reducible exact LeO.none _)
      | (with_reducible refine LeO.ite ?_ ?_)
      | (with_reducible refine LeO.bind ?_ (fun _ => ?_))
      | exact ih0 _ _
      | exact ih1 _ _ _ _
      | exact ih2 _ _ _ _
      | exact ih3 _ _ _ _ _
      | exact ih4 _ _ _
      | exact ih5 _ _ _
      | exact ih6 _ _ _ _ _
      | exact ih7 _ _ _ _
      | exact LeO.none _
      | refine LeO.ite ?_ ?_
      | refine LeO.bind ?_ (fun _ => ?_)
    · intro y0 y1 y2 y3 y4
      unfold gripsackref1_ParseStamp.l1
      repeat' first
      | (with_reducible exact ih0 _ _)
      | (with_reducible exact ih1 _ _ _ _)
      | (with_reducible exact ih2 _ _ _ _)
      | (with_reducible exact ih3 _ _ _ _ _)
      | (with_reducible exact ih4 _ _ _)
      | (with_reducible exact ih5 _ _ _)
      | (with_reducible exact ih6 _ _ _ _ _)
      | (with_reducible exact ih7 _ _ _ _)
      | (with_reducible exact LeO.refl _)
      | (with_reducible exact LeO.none _)
      | (with_reducible refine LeO.ite ?_ ?_)
      | (with_reducible refine LeO.bind ?_ (fun _ => ?_))
      | exact ih0 _ _
      | exact ih1 _ _ _ _
      | exact ih2 _ _ _ _
      | exact ih3 _ _ _ _ _
      | exact ih4 _ _ _
      | exact ih5 _ _ _
      | exact ih6 _ _ _ _ _
      | exact ih7 _ _ _ _
      | exact LeO.none _
      | refine LeO.ite ?_ ?_
      | refine LeO.bind ?_ (fun _ => ?_)
    · intro y0 y1 y2 y3
      unfold gripsackref1_ParseStamp.l0
      repeat' first
      | (with_reducible exact ih0 _ _)
      | (with_reducible exact ih1 _ _ _ _)
      | (with_reducible exact ih2 _ _ _ _)
      | (with_reducible exact ih3 _ _ _ _ _)
      | (with_reducible exact ih4 _ _ _)
      | (with_reducible exact ih5 _ _ _)
      | (with_reducible exact ih6 _ _ _ _ _)
      | (with_reducible exact ih7 _ _ _ _)
      | (with_reducible exact LeO.refl _)
      | (with_reducible exact LeO.none _)
      | (with_reducible refine LeO.ite ?_ ?_)
      | (with_reducible refine LeO.bind ?_ (fun _ => ?_))
      | exact ih0 _ _
      | exact ih1 _ _ _ _
      | exact ih2 _ _ _ _
      | exact ih3 _ _ _ _ _
      | exact ih4 _ _ _
      | exact ih5 _ _ _
      | exact ih6 _ _ _ _ _
      | exact ih7 _ _ _ _
      | exact LeO.none _
      | refine LeO.ite ?_ ?_
      | refine LeO.bind ?_ (fun _ => ?_)
theorem gripsackref1_ParseStamp.mono : ∀ a0 k, LeO (gripsackref1_ParseStamp.f k a0) (gripsackref1_ParseStamp.f (k + 1) a0) := by
  intro a0 k
  obtain ⟨ih0, ih1, ih2, ih3, ih4, ih5, ih6, ih7⟩ := gripsackref1_ParseStamp.mono_l k
  unfold gripsackref1_ParseStamp.f
  repeat' first
      | (with_reducible exact ih0 _ _)
      | (with_reducible exact ih1 _ _ _ _)
      | (with_reducible exact ih2 _ _ _ _)
      | (with_reducible exact ih3 _ _ _ _ _)
      | (with_reducible exact ih4 _ _ _)
      | (with_reducible exact ih5 _ _ _)
      | (with_reducible exact ih6 _ _ _ _ _)
      | (with_reducible exact ih7 _ _ _ _)
      | (with_reducible exact LeO.refl _)
      | (with_reducible exact LeO.none _)
      | (with_reducible refine LeO.ite ?_ ?_)
      | (with_reducible refine LeO.bind ?_ (fun _ => ?_))
      | exact ih0 _ _
      | exact ih1 _ _ _ _
      | exact ih2 _ _ _ _
      | exact ih3 _ _ _ _ _
      | exact ih4 _ _ _
      | exact ih5 _ _ _
      | exact ih6 _ _ _ _ _
      | exact ih7 _ _ _ _
      | exact LeO.none _
      | refine LeO.ite ?_ ?_
      | refine LeO.bind ?_ (fun _ => ?_)
set_option maxHeartbeats 8000000 in
set_option maxRecDepth 100000 in
theorem gripsackref1_ParseStamp.calls (k : Nat) (a0 : ByteArray) (r1 : Int) (r2 : Int) (r3 : Bool) (w : World) (h : gripsackref1_ParseStamp.f k a0 = some (r1, r2, r3)) :
    Calls Tryd.prog 14 #[.string a0] w fun e w' => e = .returned (.agg #[.int .i64 r1, .int .i64 r2, .bool r3]) ∧ Below w.heap.size w w' := by
  have hu35 := Tryd.underlying35
  have hu24 := Tryd.underlying24
  have HB := Aside0.mk (Below.refl w.heap.size w)
  have H : (if (a0.size : Int) = 0 then (gripsackref1_ParseStamp.j0 k a0 true) else (gripsackref1_ParseStamp.j0 k a0 (decide ((a0.size : Int) > 30)))) = some (r1, r2, r3) := h
  clear h
  have HC2 := Aside0.mk H
  clear H
  go_enter Tryd.func14, Tryd.ntmps14
  go_upto_region 1 with (first | ((with_reducible refine gate_dst (N := 2) rfl ?_); (try (refine gate_guard (by rfl) ?_; dsimp only)); refine box_event ?hg (N := 2) ?hd (cs := #[.int .i64 0, .int .i64 0, .bool false]) (t := 35) ?hr ?_; (case hd => rfl); (case hg => rfl); (case hr => first | (go_simp; done) | (go_simp; rfl)); intro gb102 hg w3 hbox hb; have n0_ := Aside0.mk (below_step (by repeat (first | (with_reducible first | exact HB.out | apply below_alloc | apply pw_below_drewN | apply below_drew1) | exact HB.out)) hb); have n1_ := Aside0.mk (hbox); have n2_ := Aside0.mk ((by rw [hg]; exact (below_size (by repeat (first | (with_reducible first | exact HB.out | apply below_alloc | apply pw_below_drewN | apply below_drew1) | exact HB.out))) : w.heap.size ≤ gb102)); have n3_ := Aside0.mk ((by rw [hg]; exact (below_size (by repeat (first | (with_reducible first | exact HB.out | apply below_alloc | apply pw_below_drewN | apply below_drew1) | exact HB.out))) : w.heap.size ≤ gb102)); clear HB; have HB := n0_; have BK102 := n1_; have GW102 := n2_; have GE102 := n3_; clear n0_ n1_ n2_ n3_; clear hb hbox hg))
  (try simp only [Act.put, List.setIfInBounds_toArray, List.set_cons_zero, List.set_cons_succ])
  go_cut [15] (fun v15 wc => ∃ (kq : Nat) (x15_1 : Bool), v15 = .bool x15_1 ∧ Aside0 (gripsackref1_ParseStamp.j0 kq a0 x15_1 = some (r1, r2, r3)) ∧ Aside0 (kq ≤ k) ∧ Aside0 (wc.heap[gb102]? = some (.cells #[.int .i64 0, .int .i64 0, .bool false] 35 (0, 0))) ∧ Aside0 (Below w.heap.size w wc))
  case first =>
    have H := HC2.out
    clear HC2
    by_cases c4 : (a0.size : Int) = 0
    · rw [if_pos c4] at H
      have c4b0 : ((a0.size : Int) == 0) = true := beq_iff_eq.mpr c4
      have c4b1 : ((a0.size : Int) != 0) = false := bne_eq_false_iff_eq.mpr c4
      clear c4
      (first | rw [c4b0] | (simp only [i64_w, i32_w]; rw [c4b0]) | skip)
      have H' := Aside0.mk H
      clear H
      go_wp2
      go_meet
      case rel => exact ⟨_, (true), (by first | rfl | (simp; done) | (simp [*]; done)), H', ⟨by first | omega | exact Nat.le_refl _⟩, ⟨by (with_reducible repeat (first | refine blk_drewN ?_ _ | refine blk_drew ?_ | refine blk_alloc ?_ _)); exact BK102.out⟩, ⟨by repeat (first | (with_reducible first | exact HB.out | apply below_alloc | apply pw_below_drewN | apply below_drew1 | refine below_set ?_ GE102.out) | exact HB.out)⟩⟩
    · rw [if_neg c4] at H
      have c4b0 : ((a0.size : Int) == 0) = false := beq_eq_false_iff_ne.mpr c4
      have c4b1 : ((a0.size : Int) != 0) = true := bne_iff_ne.mpr c4
      (first | rw [c4b0] | (simp only [i64_w, i32_w]; rw [c4b0]) | skip)
      have H' := Aside0.mk H
      clear H
      go_wp2
      go_meet
      case rel => exact ⟨_, (decide ((a0.size : Int) > 30)), (by first | rfl | (simp; done) | (simp [*]; done)), H', ⟨by first | omega | exact Nat.le_refl _⟩, ⟨by (with_reducible repeat (first | refine blk_drewN ?_ _ | refine blk_drew ?_ | refine blk_alloc ?_ _)); exact BK102.out⟩, ⟨by repeat (first | (with_reducible first | exact HB.out | apply below_alloc | apply pw_below_drewN | apply below_drew1 | refine below_set ?_ GE102.out) | exact HB.out)⟩⟩
  case rest =>
    clear HC2
    try clear c1
    try clear p2
    try clear c4
    try clear c4b0
    try clear c4b1
    obtain ⟨kq, x15_1, rfl, HA, HJ1, BK102, HB⟩ := hcut
    cases kq with
    | zero => exact absurd HA.out (by simp [gripsackref1_ParseStamp.j0])
    | succ kj1 =>
      have H := HA.out
      clear HA
      simp only [gripsackref1_ParseStamp.j0] at H
      by_cases c5 : x15_1 = true
      · subst c5
        have H1 : (some (0, 0, false)) = some (r1, r2, r3) := by rw [if_pos rfl] at H; exact H
        clear H
        have H := H1
        clear H1
        simp only [Option.some.injEq, Prod.mk.injEq] at H
        obtain ⟨rfl, rfl, rfl⟩ := H
        have hcz6_0 : wc.cell? ⟨gb102, 0, none⟩ = some (.int .i64 0) := (blk_cell BK102.out 0).trans rfl
        have hcz6_1 : wc.cell? ⟨gb102, 1, none⟩ = some (.int .i64 0) := (blk_cell BK102.out 1).trans rfl
        have hcz6_2 : wc.cell? ⟨gb102, 2, none⟩ = some (.bool false) := (blk_cell BK102.out 2).trans rfl
        have hfz6_0 := blk_frozen BK102.out 0
        have hfz6_1 := blk_frozen BK102.out 1
        have hfz6_2 := blk_frozen BK102.out 2
        go_wp2
        refine bodyPost_ret (results_cell_row rfl _ _ gb102 35 #[.int .i64 0, .int .i64 0, .bool false] (0, 0) _ rfl (by (with_reducible repeat (first | refine blk_drewN ?_ _ | refine blk_drew ?_ | refine blk_alloc ?_ _)); refine blk_put (cs := #[.int .i64 0, .int .i64 0, .bool false]) ?_ 2 _ rfl; (with_reducible repeat (first | refine blk_drewN ?_ _ | refine blk_drew ?_ | refine blk_alloc ?_ _)); refine blk_put (cs := #[.int .i64 0, .int .i64 0, .bool false]) ?_ 1 _ rfl; (with_reducible repeat (first | refine blk_drewN ?_ _ | refine blk_drew ?_ | refine blk_alloc ?_ _)); refine blk_put (cs := #[.int .i64 0, .int .i64 0, .bool false]) ?_ 0 _ rfl; (with_reducible repeat (first | refine blk_drewN ?_ _ | refine blk_drew ?_ | refine blk_alloc ?_ _)); exact BK102.out) Tryd.underlying35 rfl (by kernel_rfl)) rfl ?_
        exact ⟨by first | rfl | (simp [errW_none, errW_some] <;> rfl) | (simp [*, errW_none, errW_some] <;> rfl), by repeat (first | (with_reducible first | exact HB.out | apply below_alloc | apply pw_below_drewN | apply below_drew1 | refine below_set ?_ GE102.out) | exact HB.out)⟩
      · replace c5 := Bool.eq_false_iff.mpr c5
        subst c5
        have H1 : (if 0 < (a0.size : Int) then (if (bt a0 0) = 45 then (gripsackref1_ParseStamp.j1 kj1 a0 0 0 1) else (gripsackref1_ParseStamp.j1 kj1 a0 0 0 0)) else (none)) = some (r1, r2, r3) := by rw [if_neg (show ¬ (false = true) by decide)] at H; exact H
        clear H
        have H := H1
        clear H1
        by_cases c7 : 0 < (a0.size : Int)
        · rw [if_pos c7] at H
          have c7b0 : decide (0 < (a0.size : Int)) = true := decide_eq_true c7
          have c7b1 : decide (0 < a0.size) = true := decide_eq_true (by omega)
          clear c7
          have HC9 := Aside0.mk H
          clear H
          have p8 : 0 ≤ (0 : Int) := (by omega)
          have q8 : 0 < a0.size := (by have : (0 : Int) < (a0.size : Int) := of_decide_eq_true (by first | (with_reducible assumption) | assumption); omega)
          have hx8 : ∀ h : 0 < a0.size, ((a0[0]'h).toNat : Int) = bt a0 0 := bt_at a0 0
          clear p8
          have qi8 : (0 < (a0.size : Int)) = True := eq_true (of_decide_eq_true (by first | (with_reducible assumption) | assumption))
          replace q8 := eq_true q8
          go_upto_if 19 with (fail)
          go_cut [5] (fun v5 wc => ∃ (kq : Nat) (x5_8 : Int), v5 = .int .i64 x5_8 ∧ Aside0 (gripsackref1_ParseStamp.j1 kq a0 0 0 x5_8 = some (r1, r2, r3)) ∧ Aside0 (kq ≤ kj1) ∧ Aside0 (wc.heap[gb102]? = some (.cells #[.int .i64 0, .int .i64 0, .bool false] 35 (0, 0))) ∧ Aside0 (Below w.heap.size w wc))
          case first =>
            have H := HC9.out
            clear HC9
            by_cases c10 : (bt a0 0) = 45
            · rw [if_pos c10] at H
              have c10b0 : ((bt a0 0) == 45) = true := beq_iff_eq.mpr c10
              have c10b1 : ((bt a0 0) != 45) = false := bne_eq_false_iff_eq.mpr c10
              clear c10
              (first | rw [c10b0] | (simp only [i64_w, i32_w]; rw [c10b0]) | skip)
              have H' := Aside0.mk H
              clear H
              go_wp2
              go_meet
              case rel => exact ⟨_, (1), (by first | rfl | (simp; done) | (simp [*]; done)), H', ⟨by have := HJ1.out; first | omega | exact Nat.le_refl _⟩, ⟨by (with_reducible repeat (first | refine blk_drewN ?_ _ | refine blk_drew ?_ | refine blk_alloc ?_ _)); exact BK102.out⟩, ⟨by repeat (first | (with_reducible first | exact HB.out | apply below_alloc | apply pw_below_drewN | apply below_drew1 | refine below_set ?_ GE102.out) | exact HB.out)⟩⟩
            · rw [if_neg c10] at H
              have c10b0 : ((bt a0 0) == 45) = false := beq_eq_false_iff_ne.mpr c10
              have c10b1 : ((bt a0 0) != 45) = true := bne_iff_ne.mpr c10
              (first | rw [c10b0] | (simp only [i64_w, i32_w]; rw [c10b0]) | skip)
              have H' := Aside0.mk H
              clear H
              go_wp2
              go_meet
              case rel => exact ⟨_, (0), (by first | rfl | (simp; done) | (simp [*]; done)), H', ⟨by have := HJ1.out; first | omega | exact Nat.le_refl _⟩, ⟨by (with_reducible repeat (first | refine blk_drewN ?_ _ | refine blk_drew ?_ | refine blk_alloc ?_ _)); exact BK102.out⟩, ⟨by repeat (first | (with_reducible first | exact HB.out | apply below_alloc | apply pw_below_drewN | apply below_drew1 | refine below_set ?_ GE102.out) | exact HB.out)⟩⟩
          case rest =>
            clear HC9
            try clear c1
            try clear p2
            try clear c4
            try clear c4b0
            try clear c4b1
            try clear c5
            try clear c7
            try clear c7b0
            try clear c7b1
            try clear p8
            try clear q8
            try clear hx8
            try clear qi8
            try clear c10
            try clear c10b0
            try clear c10b1
            try clear hcz6_0
            try clear hcz6_1
            try clear hcz6_2
            try clear hfz6_0
            try clear hfz6_1
            try clear hfz6_2
            try clear p2
            try clear p8
            try clear q8
            obtain ⟨kq, x5_8, rfl, HA, HJ8, BK102, HB⟩ := hcut
            cases kq with
            | zero => exact absurd HA.out (by simp [gripsackref1_ParseStamp.j1])
            | succ kj8 =>
              have H := HA.out
              clear HA
              simp only [gripsackref1_ParseStamp.j1] at H
              have HC11 := Aside0.mk H
              clear H
              go_upto_block 0 with (fail)
              go_cut [3, 5] (fun v3 v5 wc => ∃ (kq : Nat) (x3_10 : Int) (x5_10 : Int), v3 = .int .i64 x3_10 ∧ v5 = .int .i64 x5_10 ∧ Aside0 (gripsackref1_ParseStamp.j3 kq a0 x3_10 0 x5_10 = some (r1, r2, r3)) ∧ Aside0 (kq ≤ kj8) ∧ Aside0 (wc.heap[gb102]? = some (.cells #[.int .i64 0, .int .i64 0, .bool false] 35 (0, 0))) ∧ Aside0 (Below w.heap.size w wc))
              case first =>
                have H := HC11.out
                clear HC11
                have H' := Aside0.mk H
                clear H
                go_wp2
                go_loopg [3, 5] kj8 (fun kq v3 v5 w' => ∃ (x3_3 : Int) (x5_3 : Int), v3 = .int .i64 x3_3 ∧ v5 = .int .i64 x5_3 ∧ Aside0 (gripsackref1_ParseStamp.l0 kq a0 x3_3 0 x5_3 = some (r1, r2, r3)) ∧ Aside0 (kq ≤ kj8) ∧ Aside0 (w'.heap[gb102]? = some (.cells #[.int .i64 0, .int .i64 0, .bool false] 35 (0, 0))) ∧ Aside0 (Below w.heap.size w w'))
                case atStart => exact ⟨(0), (x5_8), (by first | rfl | (simp; done) | (simp [*]; done)), (by first | rfl | (simp; done) | (simp [*]; done)), H', ⟨Nat.le_refl _⟩, ⟨by (with_reducible repeat (first | refine blk_drewN ?_ _ | refine blk_drew ?_ | refine blk_alloc ?_ _)); exact BK102.out⟩, ⟨by repeat (first | (with_reducible first | exact HB.out | apply below_alloc | apply pw_below_drewN | apply below_drew1 | refine below_set ?_ GE102.out) | exact HB.out)⟩⟩
                case round =>
                  clear H'
                  try clear c1
                  try clear p2
                  try clear c4
                  try clear c4b0
                  try clear c4b1
                  try clear c5
                  try clear c7
                  try clear c7b0
                  try clear c7b1
                  try clear p8
                  try clear q8
                  try clear hx8
                  try clear qi8
                  try clear c10
                  try clear c10b0
                  try clear c10b1
                  try clear hcz6_0
                  try clear hcz6_1
                  try clear hcz6_2
                  try clear hfz6_0
                  try clear hfz6_1
                  try clear hfz6_2
                  try clear p2
                  try clear p8
                  try clear q8
                  obtain ⟨x3_3, x5_3, rfl, rfl, HA, HK3, BK102, HB⟩ := hrel
                  cases gk with
                  | zero => exact absurd HA.out (by simp [gripsackref1_ParseStamp.l0])
                  | succ k3 =>
                    have H := HA.out
                    clear HA
                    simp only [gripsackref1_ParseStamp.l0] at H
                    by_cases c12 : x5_3 < (a0.size : Int)
                    · rw [if_pos c12] at H
                      have c12b0 : decide (x5_3 < (a0.size : Int)) = true := decide_eq_true c12
                      clear c12
                      (first | rw [c12b0] | (simp only [i64_w, i32_w]; rw [c12b0]) | skip)
                      by_cases c13 : 0 ≤ x5_3
                      · rw [if_pos c13] at H
                        have c13b0 : decide (0 ≤ x5_3) = true := decide_eq_true c13
                        clear c13
                        by_cases c15 : (bt a0 x5_3) ≥ 48
                        · rw [if_pos c15] at H
                          have c15b0 : decide (48 ≤ (bt a0 x5_3)) = true := decide_eq_true c15
                          clear c15
                          by_cases c17 : (bt a0 x5_3) ≤ 57
                          · rw [if_pos c17] at H
                            have c17b0 : decide ((bt a0 x5_3) ≤ 57) = true := decide_eq_true c17
                            clear c17
                            by_cases c18 : x3_3 ≤ 1099511627776
                            · rw [if_pos c18] at H
                              have c18b0 : decide (x3_3 ≤ 1099511627776) = true := decide_eq_true c18
                              clear c18
                              have H' := Aside0.mk H
                              clear H
                              have p14 : 0 ≤ (x5_3 : Int) := of_decide_eq_true (by first | (with_reducible assumption) | assumption)
                              have q14 : x5_3 < (a0.size : Int) := of_decide_eq_true (by first | (with_reducible assumption) | assumption)
                              have hx14 := bt_at a0 x5_3
                              replace p14 := eq_true p14
                              replace q14 := eq_true q14
                              have p16 : 0 ≤ (x5_3 : Int) := of_decide_eq_true (by first | (with_reducible assumption) | assumption)
                              have q16 : x5_3 < (a0.size : Int) := of_decide_eq_true (by first | (with_reducible assumption) | assumption)
                              have hx16 := bt_at a0 x5_3
                              replace p16 := eq_true p16
                              replace q16 := eq_true q16
                              have p19 : 0 ≤ (x5_3 : Int) := of_decide_eq_true (by first | (with_reducible assumption) | assumption)
                              have q19 : x5_3 < (a0.size : Int) := of_decide_eq_true (by first | (with_reducible assumption) | assumption)
                              have hx19 := bt_at a0 x5_3
                              replace p19 := eq_true p19
                              replace q19 := eq_true q19
                              go_wp2
                              go_roundg k3
                              case measure => have := HJ1.out; have := HJ8.out; have := HK3.out; omega
                              case rel => exact ⟨(wrap64 ((wrap64 (x3_3 * 10)) + (((bt a0 x5_3) - 48) % 256))), (wrap64 (x5_3 + 1)), (by first | rfl | (simp; done) | (simp [*]; done)), (by first | rfl | (simp; done) | (simp [*]; done)), H', ⟨by have := HJ1.out; have := HJ8.out; have := HK3.out; omega⟩, ⟨by (with_reducible repeat (first | refine blk_drewN ?_ _ | refine blk_drew ?_ | refine blk_alloc ?_ _)); exact BK102.out⟩, ⟨by repeat (first | (with_reducible first | exact HB.out | apply below_alloc | apply pw_below_drewN | apply below_drew1 | refine below_set ?_ GE102.out) | exact HB.out)⟩⟩
                            · rw [if_neg c18] at H
                              have c18b0 : decide (x3_3 ≤ 1099511627776) = false := decide_eq_false c18
                              clear c18
                              have H' := Aside0.mk H
                              clear H
                              have p14 : 0 ≤ (x5_3 : Int) := of_decide_eq_true (by first | (with_reducible assumption) | assumption)
                              have q14 : x5_3 < (a0.size : Int) := of_decide_eq_true (by first | (with_reducible assumption) | assumption)
                              have hx14 := bt_at a0 x5_3
                              replace p14 := eq_true p14
                              replace q14 := eq_true q14
                              have p16 : 0 ≤ (x5_3 : Int) := of_decide_eq_true (by first | (with_reducible assumption) | assumption)
                              have q16 : x5_3 < (a0.size : Int) := of_decide_eq_true (by first | (with_reducible assumption) | assumption)
                              have hx16 := bt_at a0 x5_3
                              replace p16 := eq_true p16
                              replace q16 := eq_true q16
                              go_wp2
                              go_meet
                              case rel => exact ⟨_, (x3_3), (x5_3), (by first | rfl | (simp; done) | (simp [*]; done)), (by first | rfl | (simp; done) | (simp [*]; done)), H', ⟨by have := HJ1.out; have := HJ8.out; have := HK3.out; first | omega | exact Nat.le_refl _⟩, ⟨by (with_reducible repeat (first | refine blk_drewN ?_ _ | refine blk_drew ?_ | refine blk_alloc ?_ _)); exact BK102.out⟩, ⟨by repeat (first | (with_reducible first | exact HB.out | apply below_alloc | apply pw_below_drewN | apply below_drew1 | refine below_set ?_ GE102.out) | exact HB.out)⟩⟩
                          · rw [if_neg c17] at H
                            have c17b0 : decide ((bt a0 x5_3) ≤ 57) = false := decide_eq_false c17
                            clear c17
                            have H' := Aside0.mk H
                            clear H
                            have p14 : 0 ≤ (x5_3 : Int) := of_decide_eq_true (by first | (with_reducible assumption) | assumption)
                            have q14 : x5_3 < (a0.size : Int) := of_decide_eq_true (by first | (with_reducible assumption) | assumption)
                            have hx14 := bt_at a0 x5_3
                            replace p14 := eq_true p14
                            replace q14 := eq_true q14
                            have p16 : 0 ≤ (x5_3 : Int) := of_decide_eq_true (by first | (with_reducible assumption) | assumption)
                            have q16 : x5_3 < (a0.size : Int) := of_decide_eq_true (by first | (with_reducible assumption) | assumption)
                            have hx16 := bt_at a0 x5_3
                            replace p16 := eq_true p16
                            replace q16 := eq_true q16
                            go_wp2
                            go_meet
                            case rel => exact ⟨_, (x3_3), (x5_3), (by first | rfl | (simp; done) | (simp [*]; done)), (by first | rfl | (simp; done) | (simp [*]; done)), H', ⟨by have := HJ1.out; have := HJ8.out; have := HK3.out; first | omega | exact Nat.le_refl _⟩, ⟨by (with_reducible repeat (first | refine blk_drewN ?_ _ | refine blk_drew ?_ | refine blk_alloc ?_ _)); exact BK102.out⟩, ⟨by repeat (first | (with_reducible first | exact HB.out | apply below_alloc | apply pw_below_drewN | apply below_drew1 | refine below_set ?_ GE102.out) | exact HB.out)⟩⟩
                        · rw [if_neg c15] at H
                          have c15b0 : decide (48 ≤ (bt a0 x5_3)) = false := decide_eq_false c15
                          clear c15
                          have H' := Aside0.mk H
                          clear H
                          have p14 : 0 ≤ (x5_3 : Int) := of_decide_eq_true (by first | (with_reducible assumption) | assumption)
                          have q14 : x5_3 < (a0.size : Int) := of_decide_eq_true (by first | (with_reducible assumption) | assumption)
                          have hx14 := bt_at a0 x5_3
                          replace p14 := eq_true p14
                          replace q14 := eq_true q14
                          go_wp2
                          go_meet
                          case rel => exact ⟨_, (x3_3), (x5_3), (by first | rfl | (simp; done) | (simp [*]; done)), (by first | rfl | (simp; done) | (simp [*]; done)), H', ⟨by have := HJ1.out; have := HJ8.out; have := HK3.out; first | omega | exact Nat.le_refl _⟩, ⟨by (with_reducible repeat (first | refine blk_drewN ?_ _ | refine blk_drew ?_ | refine blk_alloc ?_ _)); exact BK102.out⟩, ⟨by repeat (first | (with_reducible first | exact HB.out | apply below_alloc | apply pw_below_drewN | apply below_drew1 | refine below_set ?_ GE102.out) | exact HB.out)⟩⟩
                      · rw [if_neg c13] at H
                        exact absurd H (by simp)
                    · rw [if_neg c12] at H
                      have c12b0 : decide (x5_3 < (a0.size : Int)) = false := decide_eq_false c12
                      clear c12
                      (first | rw [c12b0] | (simp only [i64_w, i32_w]; rw [c12b0]) | skip)
                      have H' := Aside0.mk H
                      clear H
                      go_wp2
                      go_meet
                      case rel => exact ⟨_, (x3_3), (x5_3), (by first | rfl | (simp; done) | (simp [*]; done)), (by first | rfl | (simp; done) | (simp [*]; done)), H', ⟨by have := HJ1.out; have := HJ8.out; have := HK3.out; first | omega | exact Nat.le_refl _⟩, ⟨by (with_reducible repeat (first | refine blk_drewN ?_ _ | refine blk_drew ?_ | refine blk_alloc ?_ _)); exact BK102.out⟩, ⟨by repeat (first | (with_reducible first | exact HB.out | apply below_alloc | apply pw_below_drewN | apply below_drew1 | refine below_set ?_ GE102.out) | exact HB.out)⟩⟩
              case rest =>
                clear HC11
                try clear c1
                try clear p1
                try clear q1
                try clear hx1
                try clear p2
                try clear c4
                try clear c4b0
                try clear c4b1
                try clear c5
                try clear p6
                try clear c7
                try clear c7b0
                try clear c7b1
                try clear p8
                try clear q8
                try clear hx8
                try clear qi8
                try clear c10
                try clear c10b0
                try clear c10b1
                try clear c12
                try clear c12b0
                try clear c13
                try clear c13b0
                try clear c14
                try clear p14
                try clear q14
                try clear hx14
                try clear c15
                try clear c15b0
                try clear p16
                try clear q16
                try clear hx16
                try clear c17
                try clear c17b0
                try clear c18
                try clear c18b0
                try clear p19
                try clear q19
                try clear hx19
                try clear hcz6_0
                try clear hcz6_1
                try clear hcz6_2
                try clear hfz6_0
                try clear hfz6_1
                try clear hfz6_2
                try clear p14
                try clear p16
                try clear p19
                try clear p2
                try clear p8
                try clear q14
                try clear q16
                try clear q19
                try clear q8
                obtain ⟨kq, x3_10, x5_10, rfl, rfl, HA, HJ10, BK102, HB⟩ := hcut
                cases kq with
                | zero => exact absurd HA.out (by simp [gripsackref1_ParseStamp.j3])
                | succ kj10 =>
                  have H := HA.out
                  clear HA
                  simp only [gripsackref1_ParseStamp.j3] at H
                  have HC20 := Aside0.mk H
                  clear H
                  go_upto_region 9 with (fail)
                  go_cut [59] (fun v59 wc => ∃ (kq : Nat) (x59_19 : Bool), v59 = .bool x59_19 ∧ Aside0 (gripsackref1_ParseStamp.j4 kq a0 x3_10 0 x5_10 x59_19 = some (r1, r2, r3)) ∧ Aside0 (kq ≤ kj10) ∧ Aside0 (wc.heap[gb102]? = some (.cells #[.int .i64 0, .int .i64 0, .bool false] 35 (0, 0))) ∧ Aside0 (Below w.heap.size w wc))
                  case first =>
                    have H := HC20.out
                    clear HC20
                    by_cases c21 : x5_10 < (a0.size : Int)
                    · rw [if_pos c21] at H
                      have c21b0 : decide (x5_10 < (a0.size : Int)) = true := decide_eq_true c21
                      clear c21
                      (first | rw [c21b0] | (simp only [i64_w, i32_w]; rw [c21b0]) | skip)
                      by_cases c22 : 0 ≤ x5_10
                      · rw [if_pos c22] at H
                        have c22b0 : decide (0 ≤ x5_10) = true := decide_eq_true c22
                        clear c22
                        have H' := Aside0.mk H
                        clear H
                        have p23 : 0 ≤ (x5_10 : Int) := of_decide_eq_true (by first | (with_reducible assumption) | assumption)
                        have q23 : x5_10 < (a0.size : Int) := of_decide_eq_true (by first | (with_reducible assumption) | assumption)
                        have hx23 := bt_at a0 x5_10
                        replace p23 := eq_true p23
                        replace q23 := eq_true q23
                        go_wp2
                        go_meet
                        case rel => exact ⟨_, (((bt a0 x5_10) == 46)), (by first | rfl | (simp; done) | (simp [*]; done)), H', ⟨by have := HJ1.out; have := HJ8.out; have := HJ10.out; first | omega | exact Nat.le_refl _⟩, ⟨by (with_reducible repeat (first | refine blk_drewN ?_ _ | refine blk_drew ?_ | refine blk_alloc ?_ _)); exact BK102.out⟩, ⟨by repeat (first | (with_reducible first | exact HB.out | apply below_alloc | apply pw_below_drewN | apply below_drew1 | refine below_set ?_ GE102.out) | exact HB.out)⟩⟩
                      · rw [if_neg c22] at H
                        exact absurd H (by simp)
                    · rw [if_neg c21] at H
                      have c21b0 : decide (x5_10 < (a0.size : Int)) = false := decide_eq_false c21
                      clear c21
                      (first | rw [c21b0] | (simp only [i64_w, i32_w]; rw [c21b0]) | skip)
                      have H' := Aside0.mk H
                      clear H
                      go_wp2
                      go_meet
                      case rel => exact ⟨_, (false), (by first | rfl | (simp; done) | (simp [*]; done)), H', ⟨by have := HJ1.out; have := HJ8.out; have := HJ10.out; first | omega | exact Nat.le_refl _⟩, ⟨by (with_reducible repeat (first | refine blk_drewN ?_ _ | refine blk_drew ?_ | refine blk_alloc ?_ _)); exact BK102.out⟩, ⟨by repeat (first | (with_reducible first | exact HB.out | apply below_alloc | apply pw_below_drewN | apply below_drew1 | refine below_set ?_ GE102.out) | exact HB.out)⟩⟩
                  case rest =>
                    clear HC20
                    try clear c1
                    try clear p1
                    try clear q1
                    try clear hx1
                    try clear c2
                    try clear p2
                    try clear q2
                    try clear hx2
                    try clear c4
                    try clear c4b0
                    try clear c4b1
                    try clear c5
                    try clear p6
                    try clear c7
                    try clear c7b0
                    try clear c7b1
                    try clear p8
                    try clear q8
                    try clear hx8
                    try clear qi8
                    try clear c10
                    try clear c10b0
                    try clear c10b1
                    try clear c12
                    try clear c12b0
                    try clear c13
                    try clear c13b0
                    try clear c14
                    try clear p14
                    try clear q14
                    try clear hx14
                    try clear c15
                    try clear c15b0
                    try clear p16
                    try clear q16
                    try clear hx16
                    try clear c17
                    try clear c17b0
                    try clear c18
                    try clear c18b0
                    try clear p19
                    try clear q19
                    try clear hx19
                    try clear c21
                    try clear c21b0
                    try clear c22
                    try clear c22b0
                    try clear p23
                    try clear q23
                    try clear hx23
                    try clear hcz6_0
                    try clear hcz6_1
                    try clear hcz6_2
                    try clear hfz6_0
                    try clear hfz6_1
                    try clear hfz6_2
                    try clear p1
                    try clear p14
                    try clear p16
                    try clear p19
                    try clear p2
                    try clear p23
                    try clear p6
                    try clear p8
                    try clear q1
                    try clear q14
                    try clear q16
                    try clear q19
                    try clear q23
                    try clear q8
                    obtain ⟨kq, x59_19, rfl, HA, HJ19, BK102, HB⟩ := hcut
                    cases kq with
                    | zero => exact absurd HA.out (by simp [gripsackref1_ParseStamp.j4])
                    | succ kj19 =>
                      have H := HA.out
                      clear HA
                      simp only [gripsackref1_ParseStamp.j4] at H
                      have HC24 := Aside0.mk H
                      clear H
                      go_upto_if 59 with (fail)
                      go_cut [4] (fun v4 wc => ∃ (kq : Nat) (x4_23 : Int), v4 = .int .i64 x4_23 ∧ Aside0 (gripsackref1_ParseStamp.j6 kq a0 x3_10 x4_23 = some (r1, r2, r3)) ∧ Aside0 (kq ≤ kj19) ∧ Aside0 (wc.heap[gb102]? = some (.cells #[.int .i64 0, .int .i64 0, .bool false] 35 (0, 0))) ∧ Aside0 (Below w.heap.size w wc))
                      case first =>
                        have H := HC24.out
                        clear HC24
                        by_cases c25 : x59_19 = true
                        · subst c25
                          have H1 : (gripsackref1_ParseStamp.l1 kj19 a0 x3_10 0 x5_10 1) = some (r1, r2, r3) := by rw [if_pos rfl] at H; exact H
                          clear H
                          have H := H1
                          clear H1
                          have H' := Aside0.mk H
                          clear H
                          go_wp2
                          go_loopg [4, 6] kj19 (fun kq v4 v6 w' => ∃ (x4_5 : Int) (x6_5 : Int), v4 = .int .i64 x4_5 ∧ v6 = .int .i64 x6_5 ∧ Aside0 (gripsackref1_ParseStamp.l1 kq a0 x3_10 x4_5 x5_10 x6_5 = some (r1, r2, r3)) ∧ Aside0 (kq ≤ kj19) ∧ Aside0 (w'.heap[gb102]? = some (.cells #[.int .i64 0, .int .i64 0, .bool false] 35 (0, 0))) ∧ Aside0 (Below w.heap.size w w'))
                          case atStart => exact ⟨(0), (1), (by first | rfl | (simp; done) | (simp [*]; done)), (by first | rfl | (simp; done) | (simp [*]; done)), H', ⟨Nat.le_refl _⟩, ⟨by (with_reducible repeat (first | refine blk_drewN ?_ _ | refine blk_drew ?_ | refine blk_alloc ?_ _)); exact BK102.out⟩, ⟨by repeat (first | (with_reducible first | exact HB.out | apply below_alloc | apply pw_below_drewN | apply below_drew1 | refine below_set ?_ GE102.out) | exact HB.out)⟩⟩
                          case round =>
                            clear H'
                            try clear c1
                            try clear p1
                            try clear q1
                            try clear hx1
                            try clear c2
                            try clear p2
                            try clear q2
                            try clear hx2
                            try clear c4
                            try clear c4b0
                            try clear c4b1
                            try clear c5
                            try clear p6
                            try clear c7
                            try clear c7b0
                            try clear c7b1
                            try clear p8
                            try clear q8
                            try clear hx8
                            try clear qi8
                            try clear c10
                            try clear c10b0
                            try clear c10b1
                            try clear c12
                            try clear c12b0
                            try clear c13
                            try clear c13b0
                            try clear c14
                            try clear p14
                            try clear q14
                            try clear hx14
                            try clear c15
                            try clear c15b0
                            try clear p16
                            try clear q16
                            try clear hx16
                            try clear c17
                            try clear c17b0
                            try clear c18
                            try clear c18b0
                            try clear p19
                            try clear q19
                            try clear hx19
                            try clear c21
                            try clear c21b0
                            try clear c22
                            try clear c22b0
                            try clear p23
                            try clear q23
                            try clear hx23
                            try clear c25
                            try clear hcz6_0
                            try clear hcz6_1
                            try clear hcz6_2
                            try clear hfz6_0
                            try clear hfz6_1
                            try clear hfz6_2
                            try clear p1
                            try clear p14
                            try clear p16
                            try clear p19
                            try clear p2
                            try clear p23
                            try clear p6
                            try clear p8
                            try clear q1
                            try clear q14
                            try clear q16
                            try clear q19
                            try clear q2
                            try clear q23
                            try clear q8
                            obtain ⟨x4_5, x6_5, rfl, rfl, HA, HK5, BK102, HB⟩ := hrel
                            cases gk with
                            | zero => exact absurd HA.out (by simp [gripsackref1_ParseStamp.l1])
                            | succ k5 =>
                              have H := HA.out
                              clear HA
                              simp only [gripsackref1_ParseStamp.l1] at H
                              by_cases c26 : x6_5 ≤ 9
                              · rw [if_pos c26] at H
                                have c26b0 : decide (x6_5 ≤ 9) = true := decide_eq_true c26
                                clear c26
                                (first | rw [c26b0] | (simp only [i64_w, i32_w]; rw [c26b0]) | skip)
                                by_cases c27 : (wrap64 (x5_10 + x6_5)) < (a0.size : Int)
                                · rw [if_pos c27] at H
                                  have c27b0 : decide ((wrap64 (x5_10 + x6_5)) < (a0.size : Int)) = true := decide_eq_true c27
                                  clear c27
                                  obtain ⟨ji28, hji28⟩ : ∃ j_ : Int, (wrap64 (x5_10 + x6_5)) = j_ := ⟨_, rfl⟩
                                  replace H : (if 0 ≤ (ji28) then (if (bt a0 (ji28)) ≥ 48 then (if (bt a0 (ji28)) ≤ 57 then (gripsackref1_ParseStamp.l1 k5 a0 x3_10 (wrap64 ((wrap64 (x4_5 * 10)) + (((bt a0 (ji28)) - 48) % 256))) x5_10 (wrap64 (x6_5 + 1))) else (gripsackref1_ParseStamp.l1 k5 a0 x3_10 (wrap64 (x4_5 * 10)) x5_10 (wrap64 (x6_5 + 1)))) else (gripsackref1_ParseStamp.l1 k5 a0 x3_10 (wrap64 (x4_5 * 10)) x5_10 (wrap64 (x6_5 + 1)))) else (none)) = some (r1, r2, r3) := by first | (rw [hji28] at H; exact H) | (simp only [hji28] at H ⊢; exact H)
                                  (try rw [hji28] at c27b0)
                                  have hji28w : (IntKind.i64.wrap (x5_10 + x6_5)) = ji28 := (i64_w _).trans hji28
                                  by_cases c29 : 0 ≤ (ji28)
                                  · rw [if_pos c29] at H
                                    have c29b0 : decide (0 ≤ (ji28)) = true := decide_eq_true c29
                                    clear c29
                                    by_cases c31 : (bt a0 (ji28)) ≥ 48
                                    · rw [if_pos c31] at H
                                      have c31b0 : decide (48 ≤ (bt a0 (ji28))) = true := decide_eq_true c31
                                      clear c31
                                      by_cases c33 : (bt a0 (ji28)) ≤ 57
                                      · rw [if_pos c33] at H
                                        have c33b0 : decide ((bt a0 (ji28)) ≤ 57) = true := decide_eq_true c33
                                        clear c33
                                        have H' := Aside0.mk H
                                        clear H
                                        have p30 : 0 ≤ ((ji28) : Int) := of_decide_eq_true (by first | (with_reducible assumption) | assumption)
                                        have q30 : (ji28) < (a0.size : Int) := of_decide_eq_true (by first | (with_reducible assumption) | assumption)
                                        have hx30 := bt_at a0 (ji28)
                                        replace p30 := eq_true p30
                                        replace q30 := eq_true q30
                                        have p32 : 0 ≤ ((ji28) : Int) := of_decide_eq_true (by first | (with_reducible assumption) | assumption)
                                        have q32 : (ji28) < (a0.size : Int) := of_decide_eq_true (by first | (with_reducible assumption) | assumption)
                                        have hx32 := bt_at a0 (ji28)
                                        replace p32 := eq_true p32
                                        replace q32 := eq_true q32
                                        have p34 : 0 ≤ ((ji28) : Int) := of_decide_eq_true (by first | (with_reducible assumption) | assumption)
                                        have q34 : (ji28) < (a0.size : Int) := of_decide_eq_true (by first | (with_reducible assumption) | assumption)
                                        have hx34 := bt_at a0 (ji28)
                                        replace p34 := eq_true p34
                                        replace q34 := eq_true q34
                                        go_wp2
                                        go_roundg k5
                                        case measure => have := HJ1.out; have := HJ8.out; have := HJ10.out; have := HJ19.out; have := HK5.out; omega
                                        case rel => exact ⟨(wrap64 ((wrap64 (x4_5 * 10)) + (((bt a0 (ji28)) - 48) % 256))), (wrap64 (x6_5 + 1)), (by first | rfl | (simp; done) | (simp only [← hji28] <;> (first | rfl | simp)) | (simp [*]; done)), (by first | rfl | (simp; done) | (simp [*]; done)), H', ⟨by have := HJ1.out; have := HJ8.out; have := HJ10.out; have := HJ19.out; have := HK5.out; omega⟩, ⟨by (with_reducible repeat (first | refine blk_drewN ?_ _ | refine blk_drew ?_ | refine blk_alloc ?_ _)); exact BK102.out⟩, ⟨by repeat (first | (with_reducible first | exact HB.out | apply below_alloc | apply pw_below_drewN | apply below_drew1 | refine below_set ?_ GE102.out) | exact HB.out)⟩⟩
                                      · rw [if_neg c33] at H
                                        have c33b0 : decide ((bt a0 (ji28)) ≤ 57) = false := decide_eq_false c33
                                        clear c33
                                        have H' := Aside0.mk H
                                        clear H
                                        have p30 : 0 ≤ ((ji28) : Int) := of_decide_eq_true (by first | (with_reducible assumption) | assumption)
                                        have q30 : (ji28) < (a0.size : Int) := of_decide_eq_true (by first | (with_reducible assumption) | assumption)
                                        have hx30 := bt_at a0 (ji28)
                                        replace p30 := eq_true p30
                                        replace q30 := eq_true q30
                                        have p32 : 0 ≤ ((ji28) : Int) := of_decide_eq_true (by first | (with_reducible assumption) | assumption)
                                        have q32 : (ji28) < (a0.size : Int) := of_decide_eq_true (by first | (with_reducible assumption) | assumption)
                                        have hx32 := bt_at a0 (ji28)
                                        replace p32 := eq_true p32
                                        replace q32 := eq_true q32
                                        go_wp2
                                        go_roundg k5
                                        case measure => have := HJ1.out; have := HJ8.out; have := HJ10.out; have := HJ19.out; have := HK5.out; omega
                                        case rel => exact ⟨(wrap64 (x4_5 * 10)), (wrap64 (x6_5 + 1)), (by first | rfl | (simp; done) | (simp [*]; done)), (by first | rfl | (simp; done) | (simp [*]; done)), H', ⟨by have := HJ1.out; have := HJ8.out; have := HJ10.out; have := HJ19.out; have := HK5.out; omega⟩, ⟨by (with_reducible repeat (first | refine blk_drewN ?_ _ | refine blk_drew ?_ | refine blk_alloc ?_ _)); exact BK102.out⟩, ⟨by repeat (first | (with_reducible first | exact HB.out | apply below_alloc | apply pw_below_drewN | apply below_drew1 | refine below_set ?_ GE102.out) | exact HB.out)⟩⟩
                                    · rw [if_neg c31] at H
                                      have c31b0 : decide (48 ≤ (bt a0 (ji28))) = false := decide_eq_false c31
                                      clear c31
                                      have H' := Aside0.mk H
                                      clear H
                                      have p30 : 0 ≤ ((ji28) : Int) := of_decide_eq_true (by first | (with_reducible assumption) | assumption)
                                      have q30 : (ji28) < (a0.size : Int) := of_decide_eq_true (by first | (with_reducible assumption) | assumption)
                                      have hx30 := bt_at a0 (ji28)
                                      replace p30 := eq_true p30
                                      replace q30 := eq_true q30
                                      go_wp2
                                      go_roundg k5
                                      case measure => have := HJ1.out; have := HJ8.out; have := HJ10.out; have := HJ19.out; have := HK5.out; omega
                                      case rel => exact ⟨(wrap64 (x4_5 * 10)), (wrap64 (x6_5 + 1)), (by first | rfl | (simp; done) | (simp [*]; done)), (by first | rfl | (simp; done) | (simp [*]; done)), H', ⟨by have := HJ1.out; have := HJ8.out; have := HJ10.out; have := HJ19.out; have := HK5.out; omega⟩, ⟨by (with_reducible repeat (first | refine blk_drewN ?_ _ | refine blk_drew ?_ | refine blk_alloc ?_ _)); exact BK102.out⟩, ⟨by repeat (first | (with_reducible first | exact HB.out | apply below_alloc | apply pw_below_drewN | apply below_drew1 | refine below_set ?_ GE102.out) | exact HB.out)⟩⟩
                                  · rw [if_neg c29] at H
                                    exact absurd H (by simp)
                                · rw [if_neg c27] at H
                                  have c27b0 : decide ((wrap64 (x5_10 + x6_5)) < (a0.size : Int)) = false := decide_eq_false c27
                                  clear c27
                                  have H' := Aside0.mk H
                                  clear H
                                  go_wp2
                                  go_roundg k5
                                  case measure => have := HJ1.out; have := HJ8.out; have := HJ10.out; have := HJ19.out; have := HK5.out; omega
                                  case rel => exact ⟨(wrap64 (x4_5 * 10)), (wrap64 (x6_5 + 1)), (by first | rfl | (simp; done) | (simp [*]; done)), (by first | rfl | (simp; done) | (simp [*]; done)), H', ⟨by have := HJ1.out; have := HJ8.out; have := HJ10.out; have := HJ19.out; have := HK5.out; omega⟩, ⟨by (with_reducible repeat (first | refine blk_drewN ?_ _ | refine blk_drew ?_ | refine blk_alloc ?_ _)); exact BK102.out⟩, ⟨by repeat (first | (with_reducible first | exact HB.out | apply below_alloc | apply pw_below_drewN | apply below_drew1 | refine below_set ?_ GE102.out) | exact HB.out)⟩⟩
                              · rw [if_neg c26] at H
                                have c26b0 : decide (x6_5 ≤ 9) = false := decide_eq_false c26
                                clear c26
                                (first | rw [c26b0] | (simp only [i64_w, i32_w]; rw [c26b0]) | skip)
                                have H' := Aside0.mk H
                                clear H
                                go_wp2
                                go_meet
                                case rel => exact ⟨_, (x4_5), (by first | rfl | (simp; done) | (simp [*]; done)), H', ⟨by have := HJ1.out; have := HJ8.out; have := HJ10.out; have := HJ19.out; have := HK5.out; first | omega | exact Nat.le_refl _⟩, ⟨by (with_reducible repeat (first | refine blk_drewN ?_ _ | refine blk_drew ?_ | refine blk_alloc ?_ _)); exact BK102.out⟩, ⟨by repeat (first | (with_reducible first | exact HB.out | apply below_alloc | apply pw_below_drewN | apply below_drew1 | refine below_set ?_ GE102.out) | exact HB.out)⟩⟩
                        · replace c25 := Bool.eq_false_iff.mpr c25
                          subst c25
                          have H1 : (gripsackref1_ParseStamp.j6 kj19 a0 x3_10 0) = some (r1, r2, r3) := by rw [if_neg (show ¬ (false = true) by decide)] at H; exact H
                          clear H
                          have H := H1
                          clear H1
                          have H' := Aside0.mk H
                          clear H
                          go_wp2
                          go_meet
                          case rel => exact ⟨_, (0), (by first | rfl | (simp; done) | (simp [*]; done)), H', ⟨by have := HJ1.out; have := HJ8.out; have := HJ10.out; have := HJ19.out; first | omega | exact Nat.le_refl _⟩, ⟨by (with_reducible repeat (first | refine blk_drewN ?_ _ | refine blk_drew ?_ | refine blk_alloc ?_ _)); exact BK102.out⟩, ⟨by repeat (first | (with_reducible first | exact HB.out | apply below_alloc | apply pw_below_drewN | apply below_drew1 | refine below_set ?_ GE102.out) | exact HB.out)⟩⟩
                      case rest =>
                        clear HC24
                        try clear c1
                        try clear p1
                        try clear q1
                        try clear hx1
                        try clear c2
                        try clear p2
                        try clear q2
                        try clear hx2
                        try clear c3
                        try clear p3
                        try clear q3
                        try clear hx3
                        try clear c4
                        try clear c4b0
                        try clear c4b1
                        try clear c5
                        try clear p6
                        try clear c7
                        try clear c7b0
                        try clear c7b1
                        try clear p8
                        try clear q8
                        try clear hx8
                        try clear qi8
                        try clear c10
                        try clear c10b0
                        try clear c10b1
                        try clear c12
                        try clear c12b0
                        try clear c13
                        try clear c13b0
                        try clear c14
                        try clear p14
                        try clear q14
                        try clear hx14
                        try clear c15
                        try clear c15b0
                        try clear p16
                        try clear q16
                        try clear hx16
                        try clear c17
                        try clear c17b0
                        try clear c18
                        try clear c18b0
                        try clear p19
                        try clear q19
                        try clear hx19
                        try clear c21
                        try clear c21b0
                        try clear c22
                        try clear c22b0
                        try clear p23
                        try clear q23
                        try clear hx23
                        try clear c25
                        try clear c26
                        try clear c26b0
                        try clear c27
                        try clear c27b0
                        try clear c29
                        try clear c29b0
                        try clear p30
                        try clear q30
                        try clear hx30
                        try clear c31
                        try clear c31b0
                        try clear p32
                        try clear q32
                        try clear hx32
                        try clear c33
                        try clear c33b0
                        try clear p34
                        try clear q34
                        try clear hx34
                        try clear hcz6_0
                        try clear hcz6_1
                        try clear hcz6_2
                        try clear hfz6_0
                        try clear hfz6_1
                        try clear hfz6_2
                        try clear p1
                        try clear p14
                        try clear p16
                        try clear p19
                        try clear p2
                        try clear p23
                        try clear p30
                        try clear p32
                        try clear p34
                        try clear p6
                        try clear p8
                        try clear q1
                        try clear q14
                        try clear q16
                        try clear q19
                        try clear q2
                        try clear q23
                        try clear q30
                        try clear q32
                        try clear q34
                        try clear q8
                        obtain ⟨kq, x4_23, rfl, HA, HJ23, BK102, HB⟩ := hcut
                        cases kq with
                        | zero => exact absurd HA.out (by simp [gripsackref1_ParseStamp.j6])
                        | succ kj23 =>
                          have H := HA.out
                          clear HA
                          simp only [gripsackref1_ParseStamp.j6] at H
                          by_cases c35 : 0 < (a0.size : Int)
                          · rw [if_pos c35] at H
                            have c35b0 : decide (0 < (a0.size : Int)) = true := decide_eq_true c35
                            have c35b1 : decide (0 < a0.size) = true := decide_eq_true (by omega)
                            clear c35
                            have HC37 := Aside0.mk H
                            clear H
                            go_upto_if 102 with (first | ((with_reducible refine gate_dst (N := 7) rfl ?_); (try (refine gate_guard (by rfl) ?_; dsimp only)); refine box_event ?hg (N := 7) ?hd (cs := #[.int .i64 0, .int .i64 0]) (t := 24) ?hr ?_; (case hd => rfl); (case hg => rfl); (case hr => first | (go_simp; done) | (go_simp; rfl)); intro gb103 hg w38 hbox hb; have n0_ := Aside0.mk (blk_below (g := gb102) (o := .cells #[.int .i64 0, .int .i64 0, .bool false] 35 (0, 0)) (by (with_reducible repeat (first | refine blk_drewN ?_ _ | refine blk_drew ?_ | refine blk_alloc ?_ _)); exact BK102.out) hb); have n1_ := Aside0.mk (below_step (by repeat (first | (with_reducible first | exact HB.out | apply below_alloc | apply pw_below_drewN | apply below_drew1 | refine below_set ?_ GE102.out) | exact HB.out)) hb); have n2_ := Aside0.mk (hbox); have n3_ := Aside0.mk ((by rw [hg]; exact (below_size (by repeat (first | (with_reducible first | exact HB.out | apply below_alloc | apply pw_below_drewN | apply below_drew1 | refine below_set ?_ GE102.out) | exact HB.out))) : w.heap.size ≤ gb103)); have n4_ := Aside0.mk ((by rw [hg]; exact (below_size (by repeat (first | (with_reducible first | exact HB.out | apply below_alloc | apply pw_below_drewN | apply below_drew1 | refine below_set ?_ GE102.out) | exact HB.out))) : w.heap.size ≤ gb103)); have n5_ := Aside0.mk ((by rw [hg]; exact Nat.ne_of_lt (blk_lt (g := gb102) (o := .cells #[.int .i64 0, .int .i64 0, .bool false] 35 (0, 0)) (by (with_reducible repeat (first | refine blk_drewN ?_ _ | refine blk_drew ?_ | refine blk_alloc ?_ _)); exact BK102.out)) : gb102 ≠ gb103)); have n6_ := Aside0.mk ((by rw [hg]; exact Nat.ne_of_gt (blk_lt (g := gb102) (o := .cells #[.int .i64 0, .int .i64 0, .bool false] 35 (0, 0)) (by (with_reducible repeat (first | refine blk_drewN ?_ _ | refine blk_drew ?_ | refine blk_alloc ?_ _)); exact BK102.out)) : gb103 ≠ gb102)); clear BK102; clear HB; have BK102 := n0_; have HB := n1_; have BK103 := n2_; have GW103 := n3_; have GE103 := n4_; have NB102_103 := n5_; have NB103_102 := n6_; clear n0_ n1_ n2_ n3_ n4_ n5_ n6_; clear hb hbox hg; have hnb39 := NB103_102.out; have hnc39 := NB102_103.out; have hcz40_0 : w38.cell? ⟨gb103, 0, none⟩ = some (.int .i64 0) := (blk_cell BK103.out 0).trans rfl; have hcz40_1 : w38.cell? ⟨gb103, 1, none⟩ = some (.int .i64 0) := (blk_cell BK103.out 1).trans rfl; have hfz40_0 := blk_frozen BK103.out 0; have hfz40_1 := blk_frozen BK103.out 1; have p36 : 0 ≤ (0 : Int) := (by omega); have q36 : 0 < a0.size := (by have : (0 : Int) < (a0.size : Int) := of_decide_eq_true (by first | (with_reducible assumption) | assumption); omega); have hx36 : ∀ h : 0 < a0.size, ((a0[0]'h).toNat : Int) = bt a0 0 := bt_at a0 0; clear p36; have qi36 : (0 < (a0.size : Int)) = True := eq_true (of_decide_eq_true (by first | (with_reducible assumption) | assumption)); replace q36 := eq_true q36))
                            (try simp only [Act.put, List.setIfInBounds_toArray, List.set_cons_zero, List.set_cons_succ])
                            go_cut [] (fun wc => ∃ (kq : Nat) (x104000_36 : Int) (x104001_36 : Int), Aside0 (gripsackref1_ParseStamp.j7 kq a0 x104000_36 x104001_36 = some (r1, r2, r3)) ∧ Aside0 (kq ≤ kj23) ∧ Aside0 (wc.heap[gb102]? = some (.cells #[.int .i64 0, .int .i64 0, .bool false] 35 (0, 0))) ∧ Aside0 (wc.heap[gb103]? = some (.cells #[.int .i64 x104000_36, .int .i64 x104001_36] 24 (0, 0))) ∧ Aside0 (Below w.heap.size w wc))
                            case first =>
                              have H := HC37.out
                              clear HC37
                              by_cases c41 : (bt a0 0) = 45
                              · rw [if_pos c41] at H
                                have c41b0 : ((bt a0 0) == 45) = true := beq_iff_eq.mpr c41
                                have c41b1 : ((bt a0 0) != 45) = false := bne_eq_false_iff_eq.mpr c41
                                clear c41
                                (first | rw [c41b0] | (simp only [i64_w, i32_w]; rw [c41b0]) | skip)
                                by_cases c42 : x4_23 > 0
                                · rw [if_pos c42] at H
                                  have c42b0 : decide (0 < x4_23) = true := decide_eq_true c42
                                  clear c42
                                  have H' := Aside0.mk H
                                  clear H
                                  have hnb43 := NB103_102.out
                                  have hnc43 := NB102_103.out
                                  have hcz44_0 : w38.cell? ⟨gb103, 0, none⟩ = some (.int .i64 0) := (blk_cell BK103.out 0).trans rfl
                                  have hcz44_1 : w38.cell? ⟨gb103, 1, none⟩ = some (.int .i64 0) := (blk_cell BK103.out 1).trans rfl
                                  have hfz44_0 := blk_frozen BK103.out 0
                                  have hfz44_1 := blk_frozen BK103.out 1
                                  go_wp2
                                  go_meet
                                  case rel => exact ⟨_, (wrap64 ((wrap64 (-x3_10)) - 1)), (wrap64 (1000000000 - x4_23)), H', ⟨by have := HJ1.out; have := HJ8.out; have := HJ10.out; have := HJ19.out; have := HJ23.out; first | omega | exact Nat.le_refl _⟩, ⟨by (with_reducible repeat (first | refine blk_drewN ?_ _ | refine blk_drew ?_ | refine blk_alloc ?_ _)); refine blk_far ?_ NB102_103.out _; (with_reducible repeat (first | refine blk_drewN ?_ _ | refine blk_drew ?_ | refine blk_alloc ?_ _)); refine blk_far ?_ NB102_103.out _; (with_reducible repeat (first | refine blk_drewN ?_ _ | refine blk_drew ?_ | refine blk_alloc ?_ _)); refine blk_far ?_ NB102_103.out _; (with_reducible repeat (first | refine blk_drewN ?_ _ | refine blk_drew ?_ | refine blk_alloc ?_ _)); refine blk_far ?_ NB102_103.out _; (with_reducible repeat (first | refine blk_drewN ?_ _ | refine blk_drew ?_ | refine blk_alloc ?_ _)); refine blk_far ?_ NB102_103.out _; (with_reducible repeat (first | refine blk_drewN ?_ _ | refine blk_drew ?_ | refine blk_alloc ?_ _)); exact BK102.out⟩, ⟨by (with_reducible repeat (first | refine blk_drewN ?_ _ | refine blk_drew ?_ | refine blk_alloc ?_ _)); refine blk_put (cs := #[.int .i64 (wrap64 ((wrap64 (-x3_10)) - 1)), .int .i64 x4_23]) ?_ 1 _ rfl; (with_reducible repeat (first | refine blk_drewN ?_ _ | refine blk_drew ?_ | refine blk_alloc ?_ _)); refine blk_put (cs := #[.int .i64 (wrap64 (-x3_10)), .int .i64 x4_23]) ?_ 0 _ rfl; (with_reducible repeat (first | refine blk_drewN ?_ _ | refine blk_drew ?_ | refine blk_alloc ?_ _)); refine blk_put (cs := #[.int .i64 x3_10, .int .i64 x4_23]) ?_ 0 _ rfl; (with_reducible repeat (first | refine blk_drewN ?_ _ | refine blk_drew ?_ | refine blk_alloc ?_ _)); refine blk_put (cs := #[.int .i64 x3_10, .int .i64 0]) ?_ 1 _ rfl; (with_reducible repeat (first | refine blk_drewN ?_ _ | refine blk_drew ?_ | refine blk_alloc ?_ _)); refine blk_put (cs := #[.int .i64 0, .int .i64 0]) ?_ 0 _ rfl; (with_reducible repeat (first | refine blk_drewN ?_ _ | refine blk_drew ?_ | refine blk_alloc ?_ _)); exact BK103.out⟩, ⟨by repeat (first | (with_reducible first | exact HB.out | apply below_alloc | apply pw_below_drewN | apply below_drew1 | refine below_set ?_ GE102.out | refine below_set ?_ GE103.out) | exact HB.out)⟩⟩
                                · rw [if_neg c42] at H
                                  have c42b0 : decide (0 < x4_23) = false := decide_eq_false c42
                                  clear c42
                                  have H' := Aside0.mk H
                                  clear H
                                  have hnb45 := NB103_102.out
                                  have hnc45 := NB102_103.out
                                  have hcz46_0 : w38.cell? ⟨gb103, 0, none⟩ = some (.int .i64 0) := (blk_cell BK103.out 0).trans rfl
                                  have hcz46_1 : w38.cell? ⟨gb103, 1, none⟩ = some (.int .i64 0) := (blk_cell BK103.out 1).trans rfl
                                  have hfz46_0 := blk_frozen BK103.out 0
                                  have hfz46_1 := blk_frozen BK103.out 1
                                  go_wp2
                                  go_meet
                                  case rel => exact ⟨_, (wrap64 (-x3_10)), (x4_23), H', ⟨by have := HJ1.out; have := HJ8.out; have := HJ10.out; have := HJ19.out; have := HJ23.out; first | omega | exact Nat.le_refl _⟩, ⟨by (with_reducible repeat (first | refine blk_drewN ?_ _ | refine blk_drew ?_ | refine blk_alloc ?_ _)); refine blk_far ?_ NB102_103.out _; (with_reducible repeat (first | refine blk_drewN ?_ _ | refine blk_drew ?_ | refine blk_alloc ?_ _)); refine blk_far ?_ NB102_103.out _; (with_reducible repeat (first | refine blk_drewN ?_ _ | refine blk_drew ?_ | refine blk_alloc ?_ _)); refine blk_far ?_ NB102_103.out _; (with_reducible repeat (first | refine blk_drewN ?_ _ | refine blk_drew ?_ | refine blk_alloc ?_ _)); exact BK102.out⟩, ⟨by (with_reducible repeat (first | refine blk_drewN ?_ _ | refine blk_drew ?_ | refine blk_alloc ?_ _)); refine blk_put (cs := #[.int .i64 x3_10, .int .i64 x4_23]) ?_ 0 _ rfl; (with_reducible repeat (first | refine blk_drewN ?_ _ | refine blk_drew ?_ | refine blk_alloc ?_ _)); refine blk_put (cs := #[.int .i64 x3_10, .int .i64 0]) ?_ 1 _ rfl; (with_reducible repeat (first | refine blk_drewN ?_ _ | refine blk_drew ?_ | refine blk_alloc ?_ _)); refine blk_put (cs := #[.int .i64 0, .int .i64 0]) ?_ 0 _ rfl; (with_reducible repeat (first | refine blk_drewN ?_ _ | refine blk_drew ?_ | refine blk_alloc ?_ _)); exact BK103.out⟩, ⟨by repeat (first | (with_reducible first | exact HB.out | apply below_alloc | apply pw_below_drewN | apply below_drew1 | refine below_set ?_ GE102.out | refine below_set ?_ GE103.out) | exact HB.out)⟩⟩
                              · rw [if_neg c41] at H
                                have c41b0 : ((bt a0 0) == 45) = false := beq_eq_false_iff_ne.mpr c41
                                have c41b1 : ((bt a0 0) != 45) = true := bne_iff_ne.mpr c41
                                (first | rw [c41b0] | (simp only [i64_w, i32_w]; rw [c41b0]) | skip)
                                have H' := Aside0.mk H
                                clear H
                                go_wp2
                                go_meet
                                case rel => exact ⟨_, (x3_10), (x4_23), H', ⟨by have := HJ1.out; have := HJ8.out; have := HJ10.out; have := HJ19.out; have := HJ23.out; first | omega | exact Nat.le_refl _⟩, ⟨by (with_reducible repeat (first | refine blk_drewN ?_ _ | refine blk_drew ?_ | refine blk_alloc ?_ _)); refine blk_far ?_ NB102_103.out _; (with_reducible repeat (first | refine blk_drewN ?_ _ | refine blk_drew ?_ | refine blk_alloc ?_ _)); refine blk_far ?_ NB102_103.out _; (with_reducible repeat (first | refine blk_drewN ?_ _ | refine blk_drew ?_ | refine blk_alloc ?_ _)); exact BK102.out⟩, ⟨by (with_reducible repeat (first | refine blk_drewN ?_ _ | refine blk_drew ?_ | refine blk_alloc ?_ _)); refine blk_put (cs := #[.int .i64 x3_10, .int .i64 0]) ?_ 1 _ rfl; (with_reducible repeat (first | refine blk_drewN ?_ _ | refine blk_drew ?_ | refine blk_alloc ?_ _)); refine blk_put (cs := #[.int .i64 0, .int .i64 0]) ?_ 0 _ rfl; (with_reducible repeat (first | refine blk_drewN ?_ _ | refine blk_drew ?_ | refine blk_alloc ?_ _)); exact BK103.out⟩, ⟨by repeat (first | (with_reducible first | exact HB.out | apply below_alloc | apply pw_below_drewN | apply below_drew1 | refine below_set ?_ GE102.out | refine below_set ?_ GE103.out) | exact HB.out)⟩⟩
                            case rest =>
                              clear HC37
                              try clear c1
                              try clear p1
                              try clear q1
                              try clear hx1
                              try clear c2
                              try clear p2
                              try clear q2
                              try clear hx2
                              try clear c3
                              try clear p3
                              try clear q3
                              try clear hx3
                              try clear qi3
                              try clear c4
                              try clear c4b0
                              try clear c4b1
                              try clear c5
                              try clear p6
                              try clear c7
                              try clear c7b0
                              try clear c7b1
                              try clear p8
                              try clear q8
                              try clear hx8
                              try clear qi8
                              try clear c10
                              try clear c10b0
                              try clear c10b1
                              try clear c12
                              try clear c12b0
                              try clear c13
                              try clear c13b0
                              try clear c14
                              try clear p14
                              try clear q14
                              try clear hx14
                              try clear c15
                              try clear c15b0
                              try clear p16
                              try clear q16
                              try clear hx16
                              try clear c17
                              try clear c17b0
                              try clear c18
                              try clear c18b0
                              try clear p19
                              try clear q19
                              try clear hx19
                              try clear c21
                              try clear c21b0
                              try clear c22
                              try clear c22b0
                              try clear p23
                              try clear q23
                              try clear hx23
                              try clear c25
                              try clear c26
                              try clear c26b0
                              try clear c27
                              try clear c27b0
                              try clear c29
                              try clear c29b0
                              try clear p30
                              try clear q30
                              try clear hx30
                              try clear c31
                              try clear c31b0
                              try clear p32
                              try clear q32
                              try clear hx32
                              try clear c33
                              try clear c33b0
                              try clear p34
                              try clear q34
                              try clear hx34
                              try clear c35
                              try clear c35b0
                              try clear c35b1
                              try clear p36
                              try clear q36
                              try clear hx36
                              try clear qi36
                              try clear c39
                              try clear c41
                              try clear c41b0
                              try clear c41b1
                              try clear c42
                              try clear c42b0
                              try clear c43
                              try clear c45
                              try clear hcz40_0
                              try clear hcz40_1
                              try clear hcz44_0
                              try clear hcz44_1
                              try clear hcz46_0
                              try clear hcz46_1
                              try clear hcz6_0
                              try clear hcz6_1
                              try clear hcz6_2
                              try clear hfz40_0
                              try clear hfz40_1
                              try clear hfz44_0
                              try clear hfz44_1
                              try clear hfz46_0
                              try clear hfz46_1
                              try clear hfz6_0
                              try clear hfz6_1
                              try clear hfz6_2
                              try clear p1
                              try clear p14
                              try clear p16
                              try clear p19
                              try clear p2
                              try clear p23
                              try clear p3
                              try clear p30
                              try clear p32
                              try clear p34
                              try clear p36
                              try clear p6
                              try clear p8
                              try clear q1
                              try clear q14
                              try clear q16
                              try clear q19
                              try clear q2
                              try clear q23
                              try clear q3
                              try clear q30
                              try clear q32
                              try clear q34
                              try clear q36
                              try clear q8
                              obtain ⟨kq, x104000_36, x104001_36, HA, HJ36, BK102, BK103, HB⟩ := hcut
                              cases kq with
                              | zero => exact absurd HA.out (by simp [gripsackref1_ParseStamp.j7])
                              | succ kj36 =>
                                have H := HA.out
                                clear HA
                                simp only [gripsackref1_ParseStamp.j7] at H
                                replace H := Option.bind_eq_some_iff.mp H
                                obtain ⟨t104, A470, H⟩ := H
                                replace H : (if t104 = true then ((gripsackref1_TextStamp.f x104000_36 x104001_36).bind fun t105 => (if t105.toList = a0.toList then (some (x104000_36, x104001_36, true)) else (some (0, 0, false)))) else (some (0, 0, false))) = some (r1, r2, r3) := H
                                have A47 := Aside0.mk A470
                                clear A470
                                by_cases c48 : t104 = true
                                · subst c48
                                  have H1 : ((gripsackref1_TextStamp.f x104000_36 x104001_36).bind fun t105 => (if t105.toList = a0.toList then (some (x104000_36, x104001_36, true)) else (some (0, 0, false)))) = some (r1, r2, r3) := by rw [if_pos rfl] at H; exact H
                                  clear H
                                  have H := H1
                                  clear H1
                                  replace H := Option.bind_eq_some_iff.mp H
                                  obtain ⟨t105, A490, H⟩ := H
                                  replace H : (if t105.toList = a0.toList then (some (x104000_36, x104001_36, true)) else (some (0, 0, false))) = some (r1, r2, r3) := H
                                  have A49 := Aside0.mk A490
                                  clear A490
                                  by_cases c50 : t105.toList = a0.toList
                                  · rw [if_pos c50] at H
                                    have c50b0 : (t105.toList == a0.toList) = true := beq_iff_eq.mpr c50
                                    have c50b1 : (t105.toList != a0.toList) = false := bne_eq_false_iff_eq.mpr c50
                                    clear c50
                                    simp only [Option.some.injEq, Prod.mk.injEq] at H
                                    obtain ⟨rfl, rfl, rfl⟩ := H
                                    have hnb51 := NB103_102.out
                                    have hnc51 := NB102_103.out
                                    have hcz52_0 : wc.cell? ⟨gb103, 0, none⟩ = some (.int .i64 x104000_36) := (blk_cell BK103.out 0).trans rfl
                                    have hcz52_1 : wc.cell? ⟨gb103, 1, none⟩ = some (.int .i64 x104001_36) := (blk_cell BK103.out 1).trans rfl
                                    have hfz52_0 := blk_frozen BK103.out 0
                                    have hfz52_1 := blk_frozen BK103.out 1
                                    go_wp2_with (first | ((with_reducible refine gate_callee (f := 15) rfl ?_); refine goesL_ (some 116) rfl rfl Tryd.func15 (by kernel_rfl) rfl #[.agg #[.int .i64 x104000_36, .int .i64 x104001_36]] rfl (by (try simp only [List.map_toArray, List.map_cons, List.map_nil]); first | done | rfl | (simp only [List.length_drop, List.length_take]; rfl)) ?_; (with_reducible refine (gripsackref1_MayStamp.calls x104000_36 x104001_36 true _ A47.out).mono ?_); rintro e w53 ⟨rfl, hb⟩; refine ⟨_, rfl, ?_⟩; have n0_ := Aside0.mk (blk_below (g := gb102) (o := .cells #[.int .i64 0, .int .i64 0, .bool false] 35 (0, 0)) (by (with_reducible repeat (first | refine blk_drewN ?_ _ | refine blk_drew ?_ | refine blk_alloc ?_ _)); exact BK102.out) hb); have n1_ := Aside0.mk (blk_below (g := gb103) (o := .cells #[.int .i64 x104000_36, .int .i64 x104001_36] 24 (0, 0)) (by (with_reducible repeat (first | refine blk_drewN ?_ _ | refine blk_drew ?_ | refine blk_alloc ?_ _)); exact BK103.out) hb); have n2_ := Aside0.mk (below_step (by repeat (first | (with_reducible first | exact HB.out | apply below_alloc | apply pw_below_drewN | apply below_drew1 | refine below_set ?_ GE102.out | refine below_set ?_ GE103.out) | exact HB.out)) hb); clear BK102; clear BK103; clear HB; have BK102 := n0_; have BK103 := n1_; have HB := n2_; clear n0_ n1_ n2_; (try clear hb); (try clear hb2); (try clear hk); (try clear hi); have hcz54_0 : w53.cell? ⟨gb103, 0, none⟩ = some (.int .i64 x104000_36) := (blk_cell BK103.out 0).trans rfl; have hcz54_1 : w53.cell? ⟨gb103, 1, none⟩ = some (.int .i64 x104001_36) := (blk_cell BK103.out 1).trans rfl; have hfz54_0 := blk_frozen BK103.out 0; have hfz54_1 := blk_frozen BK103.out 1) | (go_at_call 16; (with_reducible refine (gripsackref1_TextStamp.calls x104000_36 x104001_36 t105 _ A49.out).mono ?_); rintro e w55 ⟨rfl, hb⟩; have n0_ := Aside0.mk (blk_below (g := gb102) (o := .cells #[.int .i64 0, .int .i64 0, .bool false] 35 (0, 0)) (by (with_reducible repeat (first | refine blk_drewN ?_ _ | refine blk_drew ?_ | refine blk_alloc ?_ _)); exact BK102.out) hb); have n1_ := Aside0.mk (blk_below (g := gb103) (o := .cells #[.int .i64 x104000_36, .int .i64 x104001_36] 24 (0, 0)) (by (with_reducible repeat (first | refine blk_drewN ?_ _ | refine blk_drew ?_ | refine blk_alloc ?_ _)); exact BK103.out) hb); have n2_ := Aside0.mk (below_step (by repeat (first | (with_reducible first | exact HB.out | apply below_alloc | apply pw_below_drewN | apply below_drew1 | refine below_set ?_ GE102.out | refine below_set ?_ GE103.out) | exact HB.out)) hb); clear BK102; clear BK103; clear HB; have BK102 := n0_; have BK103 := n1_; have HB := n2_; clear n0_ n1_ n2_; (try clear hb); (try clear hb2); (try clear hk); (try clear hi); have hcz56_0 : w55.cell? ⟨gb103, 0, none⟩ = some (.int .i64 x104000_36) := (blk_cell BK103.out 0).trans rfl; have hcz56_1 : w55.cell? ⟨gb103, 1, none⟩ = some (.int .i64 x104001_36) := (blk_cell BK103.out 1).trans rfl; have hfz56_0 := blk_frozen BK103.out 0; have hfz56_1 := blk_frozen BK103.out 1; have hcz57_0 : w55.cell? ⟨gb102, 0, none⟩ = some (.int .i64 0) := (blk_cell BK102.out 0).trans rfl; have hcz57_1 : w55.cell? ⟨gb102, 1, none⟩ = some (.int .i64 0) := (blk_cell BK102.out 1).trans rfl; have hcz57_2 : w55.cell? ⟨gb102, 2, none⟩ = some (.bool false) := (blk_cell BK102.out 2).trans rfl; have hfz57_0 := blk_frozen BK102.out 0; have hfz57_1 := blk_frozen BK102.out 1; have hfz57_2 := blk_frozen BK102.out 2))
                                    refine bodyPost_ret (results_cell_row rfl _ _ gb102 35 #[.int .i64 x104000_36, .int .i64 x104001_36, .bool true] (0, 0) _ rfl (by (with_reducible repeat (first | refine blk_drewN ?_ _ | refine blk_drew ?_ | refine blk_alloc ?_ _)); refine blk_put (cs := #[.int .i64 x104000_36, .int .i64 x104001_36, .bool false]) ?_ 2 _ rfl; (with_reducible repeat (first | refine blk_drewN ?_ _ | refine blk_drew ?_ | refine blk_alloc ?_ _)); refine blk_put (cs := #[.int .i64 x104000_36, .int .i64 0, .bool false]) ?_ 1 _ rfl; (with_reducible repeat (first | refine blk_drewN ?_ _ | refine blk_drew ?_ | refine blk_alloc ?_ _)); refine blk_put (cs := #[.int .i64 0, .int .i64 0, .bool false]) ?_ 0 _ rfl; (with_reducible repeat (first | refine blk_drewN ?_ _ | refine blk_drew ?_ | refine blk_alloc ?_ _)); exact BK102.out) Tryd.underlying35 rfl (by kernel_rfl)) rfl ?_
                                    exact ⟨by first | rfl | (simp [errW_none, errW_some] <;> rfl) | (simp [*, errW_none, errW_some] <;> rfl), by repeat (first | (with_reducible first | exact HB.out | apply below_alloc | apply pw_below_drewN | apply below_drew1 | refine below_set ?_ GE102.out | refine below_set ?_ GE103.out) | exact HB.out)⟩
                                  · rw [if_neg c50] at H
                                    have c50b0 : (t105.toList == a0.toList) = false := beq_eq_false_iff_ne.mpr c50
                                    have c50b1 : (t105.toList != a0.toList) = true := bne_iff_ne.mpr c50
                                    simp only [Option.some.injEq, Prod.mk.injEq] at H
                                    obtain ⟨rfl, rfl, rfl⟩ := H
                                    have hnb58 := NB103_102.out
                                    have hnc58 := NB102_103.out
                                    have hcz59_0 : wc.cell? ⟨gb103, 0, none⟩ = some (.int .i64 x104000_36) := (blk_cell BK103.out 0).trans rfl
                                    have hcz59_1 : wc.cell? ⟨gb103, 1, none⟩ = some (.int .i64 x104001_36) := (blk_cell BK103.out 1).trans rfl
                                    have hfz59_0 := blk_frozen BK103.out 0
                                    have hfz59_1 := blk_frozen BK103.out 1
                                    go_wp2_with (first | ((with_reducible refine gate_callee (f := 15) rfl ?_); refine goesL_ (some 116) rfl rfl Tryd.func15 (by kernel_rfl) rfl #[.agg #[.int .i64 x104000_36, .int .i64 x104001_36]] rfl (by (try simp only [List.map_toArray, List.map_cons, List.map_nil]); first | done | rfl | (simp only [List.length_drop, List.length_take]; rfl)) ?_; (with_reducible refine (gripsackref1_MayStamp.calls x104000_36 x104001_36 true _ A47.out).mono ?_); rintro e w60 ⟨rfl, hb⟩; refine ⟨_, rfl, ?_⟩; have n0_ := Aside0.mk (blk_below (g := gb102) (o := .cells #[.int .i64 0, .int .i64 0, .bool false] 35 (0, 0)) (by (with_reducible repeat (first | refine blk_drewN ?_ _ | refine blk_drew ?_ | refine blk_alloc ?_ _)); exact BK102.out) hb); have n1_ := Aside0.mk (blk_below (g := gb103) (o := .cells #[.int .i64 x104000_36, .int .i64 x104001_36] 24 (0, 0)) (by (with_reducible repeat (first | refine blk_drewN ?_ _ | refine blk_drew ?_ | refine blk_alloc ?_ _)); exact BK103.out) hb); have n2_ := Aside0.mk (below_step (by repeat (first | (with_reducible first | exact HB.out | apply below_alloc | apply pw_below_drewN | apply below_drew1 | refine below_set ?_ GE102.out | refine below_set ?_ GE103.out) | exact HB.out)) hb); clear BK102; clear BK103; clear HB; have BK102 := n0_; have BK103 := n1_; have HB := n2_; clear n0_ n1_ n2_; (try clear hb); (try clear hb2); (try clear hk); (try clear hi); have hcz61_0 : w60.cell? ⟨gb103, 0, none⟩ = some (.int .i64 x104000_36) := (blk_cell BK103.out 0).trans rfl; have hcz61_1 : w60.cell? ⟨gb103, 1, none⟩ = some (.int .i64 x104001_36) := (blk_cell BK103.out 1).trans rfl; have hfz61_0 := blk_frozen BK103.out 0; have hfz61_1 := blk_frozen BK103.out 1) | (go_at_call 16; (with_reducible refine (gripsackref1_TextStamp.calls x104000_36 x104001_36 t105 _ A49.out).mono ?_); rintro e w62 ⟨rfl, hb⟩; have n0_ := Aside0.mk (blk_below (g := gb102) (o := .cells #[.int .i64 0, .int .i64 0, .bool false] 35 (0, 0)) (by (with_reducible repeat (first | refine blk_drewN ?_ _ | refine blk_drew ?_ | refine blk_alloc ?_ _)); exact BK102.out) hb); have n1_ := Aside0.mk (blk_below (g := gb103) (o := .cells #[.int .i64 x104000_36, .int .i64 x104001_36] 24 (0, 0)) (by (with_reducible repeat (first | refine blk_drewN ?_ _ | refine blk_drew ?_ | refine blk_alloc ?_ _)); exact BK103.out) hb); have n2_ := Aside0.mk (below_step (by repeat (first | (with_reducible first | exact HB.out | apply below_alloc | apply pw_below_drewN | apply below_drew1 | refine below_set ?_ GE102.out | refine below_set ?_ GE103.out) | exact HB.out)) hb); clear BK102; clear BK103; clear HB; have BK102 := n0_; have BK103 := n1_; have HB := n2_; clear n0_ n1_ n2_; (try clear hb); (try clear hb2); (try clear hk); (try clear hi); have hcz63_0 : w62.cell? ⟨gb102, 0, none⟩ = some (.int .i64 0) := (blk_cell BK102.out 0).trans rfl; have hcz63_1 : w62.cell? ⟨gb102, 1, none⟩ = some (.int .i64 0) := (blk_cell BK102.out 1).trans rfl; have hcz63_2 : w62.cell? ⟨gb102, 2, none⟩ = some (.bool false) := (blk_cell BK102.out 2).trans rfl; have hfz63_0 := blk_frozen BK102.out 0; have hfz63_1 := blk_frozen BK102.out 1; have hfz63_2 := blk_frozen BK102.out 2))
                                    refine bodyPost_ret (results_cell_row rfl _ _ gb102 35 #[.int .i64 0, .int .i64 0, .bool false] (0, 0) _ rfl (by (with_reducible repeat (first | refine blk_drewN ?_ _ | refine blk_drew ?_ | refine blk_alloc ?_ _)); refine blk_put (cs := #[.int .i64 0, .int .i64 0, .bool false]) ?_ 2 _ rfl; (with_reducible repeat (first | refine blk_drewN ?_ _ | refine blk_drew ?_ | refine blk_alloc ?_ _)); refine blk_put (cs := #[.int .i64 0, .int .i64 0, .bool false]) ?_ 1 _ rfl; (with_reducible repeat (first | refine blk_drewN ?_ _ | refine blk_drew ?_ | refine blk_alloc ?_ _)); refine blk_put (cs := #[.int .i64 0, .int .i64 0, .bool false]) ?_ 0 _ rfl; (with_reducible repeat (first | refine blk_drewN ?_ _ | refine blk_drew ?_ | refine blk_alloc ?_ _)); exact BK102.out) Tryd.underlying35 rfl (by kernel_rfl)) rfl ?_
                                    exact ⟨by first | rfl | (simp [errW_none, errW_some] <;> rfl) | (simp [*, errW_none, errW_some] <;> rfl), by repeat (first | (with_reducible first | exact HB.out | apply below_alloc | apply pw_below_drewN | apply below_drew1 | refine below_set ?_ GE102.out | refine below_set ?_ GE103.out) | exact HB.out)⟩
                                · replace c48 := Bool.eq_false_iff.mpr c48
                                  subst c48
                                  have H1 : (some (0, 0, false)) = some (r1, r2, r3) := by rw [if_neg (show ¬ (false = true) by decide)] at H; exact H
                                  clear H
                                  have H := H1
                                  clear H1
                                  simp only [Option.some.injEq, Prod.mk.injEq] at H
                                  obtain ⟨rfl, rfl, rfl⟩ := H
                                  have hnb64 := NB103_102.out
                                  have hnc64 := NB102_103.out
                                  have hcz65_0 : wc.cell? ⟨gb103, 0, none⟩ = some (.int .i64 x104000_36) := (blk_cell BK103.out 0).trans rfl
                                  have hcz65_1 : wc.cell? ⟨gb103, 1, none⟩ = some (.int .i64 x104001_36) := (blk_cell BK103.out 1).trans rfl
                                  have hfz65_0 := blk_frozen BK103.out 0
                                  have hfz65_1 := blk_frozen BK103.out 1
                                  go_wp2_with (first | ((with_reducible refine gate_callee (f := 15) rfl ?_); refine goesL_ (some 116) rfl rfl Tryd.func15 (by kernel_rfl) rfl #[.agg #[.int .i64 x104000_36, .int .i64 x104001_36]] rfl (by (try simp only [List.map_toArray, List.map_cons, List.map_nil]); first | done | rfl | (simp only [List.length_drop, List.length_take]; rfl)) ?_; (with_reducible refine (gripsackref1_MayStamp.calls x104000_36 x104001_36 false _ A47.out).mono ?_); rintro e w66 ⟨rfl, hb⟩; refine ⟨_, rfl, ?_⟩; have n0_ := Aside0.mk (blk_below (g := gb102) (o := .cells #[.int .i64 0, .int .i64 0, .bool false] 35 (0, 0)) (by (with_reducible repeat (first | refine blk_drewN ?_ _ | refine blk_drew ?_ | refine blk_alloc ?_ _)); exact BK102.out) hb); have n1_ := Aside0.mk (blk_below (g := gb103) (o := .cells #[.int .i64 x104000_36, .int .i64 x104001_36] 24 (0, 0)) (by (with_reducible repeat (first | refine blk_drewN ?_ _ | refine blk_drew ?_ | refine blk_alloc ?_ _)); exact BK103.out) hb); have n2_ := Aside0.mk (below_step (by repeat (first | (with_reducible first | exact HB.out | apply below_alloc | apply pw_below_drewN | apply below_drew1 | refine below_set ?_ GE102.out | refine below_set ?_ GE103.out) | exact HB.out)) hb); clear BK102; clear BK103; clear HB; have BK102 := n0_; have BK103 := n1_; have HB := n2_; clear n0_ n1_ n2_; (try clear hb); (try clear hb2); (try clear hk); (try clear hi); have hcz67_0 : w66.cell? ⟨gb102, 0, none⟩ = some (.int .i64 0) := (blk_cell BK102.out 0).trans rfl; have hcz67_1 : w66.cell? ⟨gb102, 1, none⟩ = some (.int .i64 0) := (blk_cell BK102.out 1).trans rfl; have hcz67_2 : w66.cell? ⟨gb102, 2, none⟩ = some (.bool false) := (blk_cell BK102.out 2).trans rfl; have hfz67_0 := blk_frozen BK102.out 0; have hfz67_1 := blk_frozen BK102.out 1; have hfz67_2 := blk_frozen BK102.out 2))
                                  refine bodyPost_ret (results_cell_row rfl _ _ gb102 35 #[.int .i64 0, .int .i64 0, .bool false] (0, 0) _ rfl (by (with_reducible repeat (first | refine blk_drewN ?_ _ | refine blk_drew ?_ | refine blk_alloc ?_ _)); refine blk_put (cs := #[.int .i64 0, .int .i64 0, .bool false]) ?_ 2 _ rfl; (with_reducible repeat (first | refine blk_drewN ?_ _ | refine blk_drew ?_ | refine blk_alloc ?_ _)); refine blk_put (cs := #[.int .i64 0, .int .i64 0, .bool false]) ?_ 1 _ rfl; (with_reducible repeat (first | refine blk_drewN ?_ _ | refine blk_drew ?_ | refine blk_alloc ?_ _)); refine blk_put (cs := #[.int .i64 0, .int .i64 0, .bool false]) ?_ 0 _ rfl; (with_reducible repeat (first | refine blk_drewN ?_ _ | refine blk_drew ?_ | refine blk_alloc ?_ _)); exact BK102.out) Tryd.underlying35 rfl (by kernel_rfl)) rfl ?_
                                  exact ⟨by first | rfl | (simp [errW_none, errW_some] <;> rfl) | (simp [*, errW_none, errW_some] <;> rfl), by repeat (first | (with_reducible first | exact HB.out | apply below_alloc | apply pw_below_drewN | apply below_drew1 | refine below_set ?_ GE102.out | refine below_set ?_ GE103.out) | exact HB.out)⟩
                          · rw [if_neg c35] at H
                            exact absurd H (by simp)
        · rw [if_neg c7] at H
          exact absurd H (by simp)

end Go.Proofs.YtfdfpgkfhcmlcaaDoor.PStP
