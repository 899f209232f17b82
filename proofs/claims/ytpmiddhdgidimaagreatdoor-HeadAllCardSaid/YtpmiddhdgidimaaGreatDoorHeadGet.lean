/- head.Get, of any string. (Printed by tools/genget.py.) -/
import Derived.Test.YtpmiddhdgidimaaGreatDoorHeadGetP
import Derived.Test.YtpmiddhdgidimaaGreatDoorHeadPut
set_option linter.unusedVariables false
set_option linter.unusedSimpArgs false
namespace Go.Proofs.YtpmiddhdgidimaaGreatDoor
open Go.RowKit Go.Proofs.YtpmiddhdgidimaaGreatDoorW.PrintWords

/-- A region that ends in no panic: a name for the walk. -/
def OnNormal (Q : Exit → Act → World → Prop) : Exit → Act → World → Prop
  | .normal, a, w => Q .normal a w
  | _, _, _ => False
theorem wp_normal {P : Program} {c : Code} {Q : Exit → Act → World → Prop} {a : Act} {w : World} (h : c.wp P (OnNormal Q) a w) : c.wp P Q a w :=
  wp_mono h (fun e a w h => by cases e <;> first | exact h | exact h.elim)
theorem rtext_is (p : Nat) (s : List UInt8) (a n : Nat) (t : List UInt8) (ht : ahead (part s a n) = t) (w w0 : World) (hG : Good w0) (hb0 : Below w0.heap.size w0 w) (hp0 : w0.heap.size ≤ p) (hr : Rd w p s a) (h : a + n ≤ s.length) (hs : s.length ≤ 1000) :
    Calls Tryz.prog 18 #[.pointer (some ⟨p, 0, none⟩), .int .i64 (n : Int)] w fun e w' => e = .returned (.string (mkS t)) ∧ Rd w' p s (a + n) ∧ Below p w w' := by
  subst ht; exact rtext_any p s a n w w0 hG hb0 hp0 hr h hs
theorem take_is (p : Nat) (s : List UInt8) (a n : Nat) (t : List UInt8) (ht : part s a n = t) (w : World) (hr : Rd w p s a) (h : a + n ≤ s.length) (hs : s.length ≤ 1000) :
    Calls Tryz.prog 20 #[.pointer (some ⟨p, 0, none⟩), .int .i64 (n : Int)] w fun e w' => e = .returned (.string (mkS t)) ∧ Rd w' p s (a + n) ∧ Below p w w' := by
  subst ht; exact take_any p s a n w hr h hs
theorem put_any (h : Hd) (w : World) (hG : Good w) (hf : Fits h) :
    Calls Tryz.prog 11 #[.agg (hdCells h)] w fun e w' => e = .returned (.string (mkS (putT h))) ∧ Below w.heap.size w w' := by
  cases hm : mayH h with
  | true => rw [put_of ((mayH_iff h).1 hm)]; exact put_ok h w hG hf hm
  | false => rw [put_none hm]; exact put_not h w hG hf hm
theorem put_is (h : Hd) (t : List UInt8) (ht : putT h = t) (w : World) (hG : Good w) (hf : Fits h) :
    Calls Tryz.prog 11 #[.agg (hdCells h)] w fun e w' => e = .returned (.string (mkS t)) ∧ Below w.heap.size w w' := by
  subst ht; exact put_any h w hG hf

set_option maxHeartbeats 2000000 in
set_option maxRecDepth 100000 in
theorem get_zero (s S : List UInt8) (hS : s.take 512 = S) (h1 : 512 ≤ s.length) (hl : s.length ≤ 1000000) (hz : S.all (fun c => c == 0) = true) (w : World) :
    Calls Tryz.prog 5 #[.string (mkS s)] w (GetDone s w) := by
  have y0 : ¬ (s.length : Int) < 512 := by omega
  have y1 : (512 : Int) ≤ s.length := by omega
  have x1 : (mkS s).extract 0 512 = mkS S := by rw [extract_mkS, ← hS, List.drop_zero]
  have hL : S.length = 512 := by rw [← hS, List.length_take]; omega
  have HB0 := Aside0.mk (below_alloc (below_alloc (Below.refl w.heap.size w) (.cells hd0C 23)) (.cells #[.int .i64 0] 25))
  obtain ⟨H0, E0⟩ := heap_two w (.cells hd0C 23) (.cells #[.int .i64 0] 25)
  have hsz : ((w.alloc (.cells hd0C 23)).alloc (.cells #[.int .i64 0] 25)).heap.size = w.heap.size + 2 := by simp
  unfold hd0C at HB0 H0 E0 hsz
  have HD := Aside0.mk (show gotH (getT s) = .tuple #[.agg hd0C, .int .i64 2] by unfold getT; rw [hS, if_neg (by omega), if_pos hz]; rfl)
  have HT := Aside0.mk (trim_all.2 hz)
  clear hz
  go_enter_defers Tryz.func5, Tryz.ntmps5
  go_wp2_with fail
  refine (trim_zero S [] HT.out _ (by omega)).mono ?_
  rintro e w1 ⟨rfl, hb1⟩
  replace H0 := (hb1.block _ (by omega)).trans H0
  replace E0 := (hb1.block _ (by omega)).trans E0
  have HB := Aside0.mk (below_next HB0.out hb1 (by omega))
  clear hb1 hsz HB0
  have HE := Aside0.mk E0
  have HH := Aside0.mk H0
  have c0 : w1.cell? ⟨w.heap.size, 0, none⟩ = some (.string ⟨#[]⟩) := blk_cell H0 0
  have f0 := blk_frozen H0 0
  have c1 : w1.cell? ⟨w.heap.size, 1, none⟩ = some (.int .i64 0) := blk_cell H0 1
  have f1 := blk_frozen H0 1
  have c2 : w1.cell? ⟨w.heap.size, 2, none⟩ = some (.int .i64 0) := blk_cell H0 2
  have f2 := blk_frozen H0 2
  have c3 : w1.cell? ⟨w.heap.size, 3, none⟩ = some (.int .i64 0) := blk_cell H0 3
  have f3 := blk_frozen H0 3
  have c4 : w1.cell? ⟨w.heap.size, 4, none⟩ = some (.int .i64 0) := blk_cell H0 4
  have f4 := blk_frozen H0 4
  have c5 : w1.cell? ⟨w.heap.size, 5, none⟩ = some (.int .i64 0) := blk_cell H0 5
  have f5 := blk_frozen H0 5
  have c6 : w1.cell? ⟨w.heap.size, 6, none⟩ = some (.int .u8 0) := blk_cell H0 6
  have f6 := blk_frozen H0 6
  have c7 : w1.cell? ⟨w.heap.size, 7, none⟩ = some (.string ⟨#[]⟩) := blk_cell H0 7
  have f7 := blk_frozen H0 7
  have c8 : w1.cell? ⟨w.heap.size, 8, none⟩ = some (.string ⟨#[]⟩) := blk_cell H0 8
  have f8 := blk_frozen H0 8
  have c9 : w1.cell? ⟨w.heap.size, 9, none⟩ = some (.string ⟨#[]⟩) := blk_cell H0 9
  have f9 := blk_frozen H0 9
  have c10 : w1.cell? ⟨w.heap.size, 10, none⟩ = some (.int .i64 0) := blk_cell H0 10
  have f10 := blk_frozen H0 10
  have c11 : w1.cell? ⟨w.heap.size, 11, none⟩ = some (.int .i64 0) := blk_cell H0 11
  have f11 := blk_frozen H0 11
  have c12 : w1.cell? ⟨w.heap.size, 12, none⟩ = some (.string ⟨#[]⟩) := blk_cell H0 12
  have f12 := blk_frozen H0 12
  have d0 : w1.cell? ⟨w.heap.size + 1, 0, none⟩ = some (.int .i64 0) := blk_cell E0 0
  have k0 := blk_frozen E0 0
  have l0 := blk_lt H0
  have l1 := blk_lt E0
  clear H0 E0
  go_wp2
  have a0 := HH.out
  have b0 := HE.out
  have a1 := blk_hit (i := 0) (v := .string ⟨#[]⟩) a0
  simp only [List.setIfInBounds_toArray, List.set_cons_zero, List.set_cons_succ] at a1
  have b1 := blk_miss (g' := w.heap.size) (i := 0) (v := .string ⟨#[]⟩) b0 (Nat.succ_ne_self _)
  have a2 := blk_hit (i := 1) (v := .int .i64 0) a1
  simp only [List.setIfInBounds_toArray, List.set_cons_zero, List.set_cons_succ] at a2
  have b2 := blk_miss (g' := w.heap.size) (i := 1) (v := .int .i64 0) b1 (Nat.succ_ne_self _)
  have a3 := blk_hit (i := 2) (v := .int .i64 0) a2
  simp only [List.setIfInBounds_toArray, List.set_cons_zero, List.set_cons_succ] at a3
  have b3 := blk_miss (g' := w.heap.size) (i := 2) (v := .int .i64 0) b2 (Nat.succ_ne_self _)
  have a4 := blk_hit (i := 3) (v := .int .i64 0) a3
  simp only [List.setIfInBounds_toArray, List.set_cons_zero, List.set_cons_succ] at a4
  have b4 := blk_miss (g' := w.heap.size) (i := 3) (v := .int .i64 0) b3 (Nat.succ_ne_self _)
  have a5 := blk_hit (i := 4) (v := .int .i64 0) a4
  simp only [List.setIfInBounds_toArray, List.set_cons_zero, List.set_cons_succ] at a5
  have b5 := blk_miss (g' := w.heap.size) (i := 4) (v := .int .i64 0) b4 (Nat.succ_ne_self _)
  have a6 := blk_hit (i := 5) (v := .int .i64 0) a5
  simp only [List.setIfInBounds_toArray, List.set_cons_zero, List.set_cons_succ] at a6
  have b6 := blk_miss (g' := w.heap.size) (i := 5) (v := .int .i64 0) b5 (Nat.succ_ne_self _)
  have a7 := blk_hit (i := 6) (v := .int .u8 0) a6
  simp only [List.setIfInBounds_toArray, List.set_cons_zero, List.set_cons_succ] at a7
  have b7 := blk_miss (g' := w.heap.size) (i := 6) (v := .int .u8 0) b6 (Nat.succ_ne_self _)
  have a8 := blk_hit (i := 7) (v := .string ⟨#[]⟩) a7
  simp only [List.setIfInBounds_toArray, List.set_cons_zero, List.set_cons_succ] at a8
  have b8 := blk_miss (g' := w.heap.size) (i := 7) (v := .string ⟨#[]⟩) b7 (Nat.succ_ne_self _)
  have a9 := blk_hit (i := 8) (v := .string ⟨#[]⟩) a8
  simp only [List.setIfInBounds_toArray, List.set_cons_zero, List.set_cons_succ] at a9
  have b9 := blk_miss (g' := w.heap.size) (i := 8) (v := .string ⟨#[]⟩) b8 (Nat.succ_ne_self _)
  have a10 := blk_hit (i := 9) (v := .string ⟨#[]⟩) a9
  simp only [List.setIfInBounds_toArray, List.set_cons_zero, List.set_cons_succ] at a10
  have b10 := blk_miss (g' := w.heap.size) (i := 9) (v := .string ⟨#[]⟩) b9 (Nat.succ_ne_self _)
  have a11 := blk_hit (i := 10) (v := .int .i64 0) a10
  simp only [List.setIfInBounds_toArray, List.set_cons_zero, List.set_cons_succ] at a11
  have b11 := blk_miss (g' := w.heap.size) (i := 10) (v := .int .i64 0) b10 (Nat.succ_ne_self _)
  have a12 := blk_hit (i := 11) (v := .int .i64 0) a11
  simp only [List.setIfInBounds_toArray, List.set_cons_zero, List.set_cons_succ] at a12
  have b12 := blk_miss (g' := w.heap.size) (i := 11) (v := .int .i64 0) b11 (Nat.succ_ne_self _)
  have a13 := blk_hit (i := 12) (v := .string ⟨#[]⟩) a12
  simp only [List.setIfInBounds_toArray, List.set_cons_zero, List.set_cons_succ] at a13
  have b13 := blk_miss (g' := w.heap.size) (i := 12) (v := .string ⟨#[]⟩) b12 (Nat.succ_ne_self _)
  have a14 := blk_miss (g' := w.heap.size + 1) (i := 0) (v := .int .i64 2) a13 (Nat.succ_ne_self _).symm
  have b14 := blk_hit (i := 0) (v := .int .i64 2) b13
  simp only [List.setIfInBounds_toArray, List.set_cons_zero, List.set_cons_succ] at b14
  exact get_leave _ _ _ _ _ _ _ _ _ _ _ _ _ _ _ _ _ _ _ rfl rfl a14 b14 ⟨congrArg Ending.returned HD.out.symm, (Below.setCell (Below.setCell (Below.setCell (Below.setCell (Below.setCell (Below.setCell (Below.setCell (Below.setCell (Below.setCell (Below.setCell (Below.setCell (Below.setCell (Below.setCell (Below.setCell HB.out (Nat.le_refl _) _) (Nat.le_refl _) _) (Nat.le_refl _) _) (Nat.le_refl _) _) (Nat.le_refl _) _) (Nat.le_refl _) _) (Nat.le_refl _) _) (Nat.le_refl _) _) (Nat.le_refl _) _) (Nat.le_refl _) _) (Nat.le_refl _) _) (Nat.le_refl _) _) (Nat.le_refl _) _) (Nat.le_succ _) _)⟩
set_option maxHeartbeats 8000000 in
set_option maxRecDepth 100000 in
theorem get_main (s S : List UInt8) (hS : s.take 512 = S) (h1 : 512 ≤ s.length) (hl : s.length ≤ 1000000) (hz : ¬ S.all (fun c => c == 0) = true) (w : World) (hG : Good w) :
    Calls Tryz.prog 5 #[.string (mkS s)] w (GetDone s w) := by
  have y0 : ¬ (s.length : Int) < 512 := by omega
  have y1 : (512 : Int) ≤ s.length := by omega
  have x1 : (mkS s).extract 0 512 = mkS S := by rw [extract_mkS, ← hS, List.drop_zero]
  have hL : S.length = 512 := by rw [← hS, List.length_take]; omega
  have HB0 := Aside0.mk (below_alloc (below_alloc (Below.refl w.heap.size w) (.cells hd0C 23)) (.cells #[.int .i64 0] 25))
  obtain ⟨H0, E0⟩ := heap_two w (.cells hd0C 23) (.cells #[.int .i64 0] 25)
  have hsz : ((w.alloc (.cells hd0C 23)).alloc (.cells #[.int .i64 0] 25)).heap.size = w.heap.size + 2 := by simp
  unfold hd0C at HB0 H0 E0 hsz
  obtain ⟨tr, htr⟩ : ∃ tr, Lib.trimB S 0 = tr := ⟨_, rfl⟩
  have y2 : tr.isEmpty = false := by
    cases tr with
    | nil => exact absurd (trim_all.1 htr) hz
    | cons _ _ => rfl
  have HT := Aside0.mk htr
  have HG := Aside0.mk hG
  clear htr hG
  obtain ⟨nm, hnm⟩ : ∃ x, ahead (part S 0 100) = x := ⟨_, rfl⟩
  obtain ⟨lk, hlk⟩ : ∃ x, ahead (part S 157 100) = x := ⟨_, rfl⟩
  obtain ⟨un, hun⟩ : ∃ x, ahead (part S 265 32) = x := ⟨_, rfl⟩
  obtain ⟨gn, hgn⟩ : ∃ x, ahead (part S 297 32) = x := ⟨_, rfl⟩
  obtain ⟨pr, hpr⟩ : ∃ x, ahead (part S 345 155) = x := ⟨_, rfl⟩
  obtain ⟨ty, hty⟩ : ∃ x, S.getD 156 0 = x := ⟨_, rfl⟩
  obtain ⟨j1, hj1⟩ : ∃ x, part S 148 8 = x := ⟨_, rfl⟩
  obtain ⟨j2, hj2⟩ : ∃ x, part S 257 8 = x := ⟨_, rfl⟩
  have hone := part_one S 156 (by omega)
  rw [hty] at hone
  have HNM := Aside0.mk hnm
  have HLK := Aside0.mk hlk
  have HUN := Aside0.mk hun
  have HGN := Aside0.mk hgn
  have HPR := Aside0.mk hpr
  have HTY := Aside0.mk hty
  have HJ1 := Aside0.mk hj1
  have HJ2 := Aside0.mk hj2
  have HONE := Aside0.mk hone
  clear hnm hlk hun hgn hpr hty hj1 hj2 hone
  go_enter_defers Tryz.func5, Tryz.ntmps5
  go_wp2_with fail
  refine (trim_zero S tr HT.out _ (by omega)).mono ?_
  rintro e w1 ⟨rfl, hb1⟩
  replace H0 := (hb1.block _ (by omega)).trans H0
  replace E0 := (hb1.block _ (by omega)).trans E0
  have hw1 : w.heap.size + 2 ≤ w1.heap.size := by have := hb1.size; omega
  have b0 := below_next HB0.out hb1 (by omega)
  clear hb1 hsz HB0
  obtain ⟨p, hp⟩ : ∃ p, w1.heap.size = p := ⟨_, rfl⟩
  rw [hp] at hw1
  have hwp : w.heap.size ≤ p := by omega
  have hpn : p ≠ w.heap.size := by omega
  have h01 := heap_alloc_new w1 (.cells #[.string (mkS S), .int .i64 0] 47)
  rw [hp] at h01
  have H1 := blk_alloc H0 (.cells #[.string (mkS S), .int .i64 0] 47)
  have E1 := blk_alloc E0 (.cells #[.string (mkS S), .int .i64 0] 47)
  have b1 := below_alloc b0 (.cells #[.string (mkS S), .int .i64 0] 47)
  go_wp2_with fail
  generalize w1.alloc (.cells #[.string (mkS S), .int .i64 0] 47) = W0 at h01 H1 E1 b1 ⊢
  have HRW0 : Aside0 (Rd W0 p S 0) := ⟨⟨h01⟩⟩
  have HW0 := Aside0.mk H1
  have EW0 := Aside0.mk E1
  have HBW0 := Aside0.mk b1
  clear h01 H1 E1 b1 b0 H0 E0 hp
  go_wp2_with fail
  refine (rtext_is p S 0 100 nm HNM.out W0 w HG.out HBW0.out hwp HRW0.out (by omega) (by omega)).mono ?_
  rintro e W1 ⟨rfl, hr, hb⟩
  have HRW1 : Aside0 (Rd W1 p S 100) := ⟨hr⟩
  have HBW1 := Aside0.mk (HBW0.out.trans (hb.mono (by omega)))
  have HW1 := Aside0.mk ((hb.block _ (by omega)).trans HW0.out)
  have EW1 := Aside0.mk ((hb.block _ (by omega)).trans EW0.out)
  clear hb hr
  go_wp2_with fail
  rcases hx : numAt S 100 8 with _ | m
  · refine (rfield_bad p S 100 8 W1 HRW1.out (by omega) (by omega) (by decide) hx).mono ?_
    rintro e W2 ⟨rfl, hb⟩
    have HBW2 := Aside0.mk (HBW1.out.trans (hb.mono (by omega)))
    have HW2 := Aside0.mk ((hb.block _ (by omega)).trans HW1.out)
    have EW2 := Aside0.mk ((hb.block _ (by omega)).trans EW1.out)
    clear hb
    go_wp2_with fail
    exact get_leave_bad _ _ _ _ _ _ _ _ _ _ _ _ _ _ _ _ _ _ _ _ rfl rfl HW2.out EW2.out (by omega) (fun W' hW => ⟨by rw [getT_bad hS h1 hz (readH_none (by simp [hx]))]; rfl, HBW2.out.trans (hW _ (by omega) (by omega))⟩)
  have Xm := Aside0.mk hx
  clear hx
  refine (rfield_ok p S 100 8 m W1 HRW1.out (by omega) (by omega) (by decide) Xm.out).mono ?_
  rintro e W2 ⟨rfl, hr, hb⟩
  have HRW2 : Aside0 (Rd W2 p S 108) := ⟨hr⟩
  have HBW2 := Aside0.mk (HBW1.out.trans (hb.mono (by omega)))
  have HW2 := Aside0.mk ((hb.block _ (by omega)).trans HW1.out)
  have EW2 := Aside0.mk ((hb.block _ (by omega)).trans EW1.out)
  clear hb hr
  go_wp2_with fail
  rcases hx : numAt S 108 8 with _ | u
  · refine (rfield_bad p S 108 8 W2 HRW2.out (by omega) (by omega) (by decide) hx).mono ?_
    rintro e W3 ⟨rfl, hb⟩
    have HBW3 := Aside0.mk (HBW2.out.trans (hb.mono (by omega)))
    have HW3 := Aside0.mk ((hb.block _ (by omega)).trans HW2.out)
    have EW3 := Aside0.mk ((hb.block _ (by omega)).trans EW2.out)
    clear hb
    go_wp2_with fail
    exact get_leave_bad _ _ _ _ _ _ _ _ _ _ _ _ _ _ _ _ _ _ _ _ rfl rfl HW3.out EW3.out (by omega) (fun W' hW => ⟨by rw [getT_bad hS h1 hz (readH_none (by simp [hx]))]; rfl, HBW3.out.trans (hW _ (by omega) (by omega))⟩)
  have Xu := Aside0.mk hx
  clear hx
  refine (rfield_ok p S 108 8 u W2 HRW2.out (by omega) (by omega) (by decide) Xu.out).mono ?_
  rintro e W3 ⟨rfl, hr, hb⟩
  have HRW3 : Aside0 (Rd W3 p S 116) := ⟨hr⟩
  have HBW3 := Aside0.mk (HBW2.out.trans (hb.mono (by omega)))
  have HW3 := Aside0.mk ((hb.block _ (by omega)).trans HW2.out)
  have EW3 := Aside0.mk ((hb.block _ (by omega)).trans EW2.out)
  clear hb hr
  go_wp2_with fail
  rcases hx : numAt S 116 8 with _ | g
  · refine (rfield_bad p S 116 8 W3 HRW3.out (by omega) (by omega) (by decide) hx).mono ?_
    rintro e W4 ⟨rfl, hb⟩
    have HBW4 := Aside0.mk (HBW3.out.trans (hb.mono (by omega)))
    have HW4 := Aside0.mk ((hb.block _ (by omega)).trans HW3.out)
    have EW4 := Aside0.mk ((hb.block _ (by omega)).trans EW3.out)
    clear hb
    go_wp2_with fail
    exact get_leave_bad _ _ _ _ _ _ _ _ _ _ _ _ _ _ _ _ _ _ _ _ rfl rfl HW4.out EW4.out (by omega) (fun W' hW => ⟨by rw [getT_bad hS h1 hz (readH_none (by simp [hx]))]; rfl, HBW4.out.trans (hW _ (by omega) (by omega))⟩)
  have Xg := Aside0.mk hx
  clear hx
  refine (rfield_ok p S 116 8 g W3 HRW3.out (by omega) (by omega) (by decide) Xg.out).mono ?_
  rintro e W4 ⟨rfl, hr, hb⟩
  have HRW4 : Aside0 (Rd W4 p S 124) := ⟨hr⟩
  have HBW4 := Aside0.mk (HBW3.out.trans (hb.mono (by omega)))
  have HW4 := Aside0.mk ((hb.block _ (by omega)).trans HW3.out)
  have EW4 := Aside0.mk ((hb.block _ (by omega)).trans EW3.out)
  clear hb hr
  have c0 : W4.cell? ⟨w.heap.size, 0, none⟩ = some (.string ⟨#[]⟩) := blk_cell HW4.out 0
  have f0 := blk_frozen HW4.out 0
  have c1 : W4.cell? ⟨w.heap.size, 1, none⟩ = some (.int .i64 0) := blk_cell HW4.out 1
  have f1 := blk_frozen HW4.out 1
  have c2 : W4.cell? ⟨w.heap.size, 2, none⟩ = some (.int .i64 0) := blk_cell HW4.out 2
  have f2 := blk_frozen HW4.out 2
  have c3 : W4.cell? ⟨w.heap.size, 3, none⟩ = some (.int .i64 0) := blk_cell HW4.out 3
  have f3 := blk_frozen HW4.out 3
  have hlt := blk_lt HW4.out
  go_wp2_with fail
  have a0 := HW4.out
  have a1 := blk_hit (i := 0) (v := (.string (mkS nm))) a0
  simp only [List.setIfInBounds_toArray, List.set_cons_zero, List.set_cons_succ] at a1
  have a2 := blk_hit (i := 1) (v := (.int .i64 m)) a1
  simp only [List.setIfInBounds_toArray, List.set_cons_zero, List.set_cons_succ] at a2
  have a3 := blk_hit (i := 2) (v := (.int .i64 u)) a2
  simp only [List.setIfInBounds_toArray, List.set_cons_zero, List.set_cons_succ] at a3
  have a4 := blk_hit (i := 3) (v := (.int .i64 g)) a3
  simp only [List.setIfInBounds_toArray, List.set_cons_zero, List.set_cons_succ] at a4
  have hs : W4.heap.size = ((((W4.setCell ⟨w.heap.size, 0, none⟩ (.string (mkS nm))).setCell ⟨w.heap.size, 1, none⟩ (.int .i64 m)).setCell ⟨w.heap.size, 2, none⟩ (.int .i64 u)).setCell ⟨w.heap.size, 3, none⟩ (.int .i64 g)).heap.size := by simp
  have e1 : ((((W4.setCell ⟨w.heap.size, 0, none⟩ (.string (mkS nm))).setCell ⟨w.heap.size, 1, none⟩ (.int .i64 m)).setCell ⟨w.heap.size, 2, none⟩ (.int .i64 u)).setCell ⟨w.heap.size, 3, none⟩ (.int .i64 g)).heap[w.heap.size + 1]? = _ := (blk_miss (blk_miss (blk_miss (blk_miss EW4.out (Nat.succ_ne_self _)) (Nat.succ_ne_self _)) (Nat.succ_ne_self _)) (Nat.succ_ne_self _))
  have r1 : Rd ((((W4.setCell ⟨w.heap.size, 0, none⟩ (.string (mkS nm))).setCell ⟨w.heap.size, 1, none⟩ (.int .i64 m)).setCell ⟨w.heap.size, 2, none⟩ (.int .i64 u)).setCell ⟨w.heap.size, 3, none⟩ (.int .i64 g)) p S 124 := ⟨(blk_miss (blk_miss (blk_miss (blk_miss HRW4.out.blk hpn) hpn) hpn) hpn)⟩
  have b1 : Below w.heap.size w ((((W4.setCell ⟨w.heap.size, 0, none⟩ (.string (mkS nm))).setCell ⟨w.heap.size, 1, none⟩ (.int .i64 m)).setCell ⟨w.heap.size, 2, none⟩ (.int .i64 u)).setCell ⟨w.heap.size, 3, none⟩ (.int .i64 g)) := (Below.setCell (Below.setCell (Below.setCell (Below.setCell HBW4.out (Nat.le_refl _) _) (Nat.le_refl _) _) (Nat.le_refl _) _) (Nat.le_refl _) _)
  generalize ((((W4.setCell ⟨w.heap.size, 0, none⟩ (.string (mkS nm))).setCell ⟨w.heap.size, 1, none⟩ (.int .i64 m)).setCell ⟨w.heap.size, 2, none⟩ (.int .i64 u)).setCell ⟨w.heap.size, 3, none⟩ (.int .i64 g)) = W5 at a4 e1 r1 b1 hs ⊢
  have HW5 := Aside0.mk a4
  have EW5 := Aside0.mk e1
  have HRW5 := Aside0.mk r1
  have HBW5 := Aside0.mk b1
  clear a0 a1 a2 a3 a4 e1 r1 b1 hs hlt c0 f0 c1 f1 c2 f2 c3 f3
  go_wp2_with fail
  rcases hx : numAt S 124 12 with _ | z
  · refine (rfield_bad p S 124 12 W5 HRW5.out (by omega) (by omega) (by decide) hx).mono ?_
    rintro e W6 ⟨rfl, hb⟩
    have HBW6 := Aside0.mk (HBW5.out.trans (hb.mono (by omega)))
    have HW6 := Aside0.mk ((hb.block _ (by omega)).trans HW5.out)
    have EW6 := Aside0.mk ((hb.block _ (by omega)).trans EW5.out)
    clear hb
    go_wp2_with fail
    exact get_leave_bad _ _ _ _ _ _ _ _ _ _ _ _ _ _ _ _ _ _ _ _ rfl rfl HW6.out EW6.out (by omega) (fun W' hW => ⟨by rw [getT_bad hS h1 hz (readH_none (by simp [hx]))]; rfl, HBW6.out.trans (hW _ (by omega) (by omega))⟩)
  have Xz := Aside0.mk hx
  clear hx
  refine (rfield_ok p S 124 12 z W5 HRW5.out (by omega) (by omega) (by decide) Xz.out).mono ?_
  rintro e W6 ⟨rfl, hr, hb⟩
  have HRW6 : Aside0 (Rd W6 p S 136) := ⟨hr⟩
  have HBW6 := Aside0.mk (HBW5.out.trans (hb.mono (by omega)))
  have HW6 := Aside0.mk ((hb.block _ (by omega)).trans HW5.out)
  have EW6 := Aside0.mk ((hb.block _ (by omega)).trans EW5.out)
  clear hb hr
  go_wp2_with fail
  rcases hx : numAt S 136 12 with _ | t
  · refine (rfield_bad p S 136 12 W6 HRW6.out (by omega) (by omega) (by decide) hx).mono ?_
    rintro e W7 ⟨rfl, hb⟩
    have HBW7 := Aside0.mk (HBW6.out.trans (hb.mono (by omega)))
    have HW7 := Aside0.mk ((hb.block _ (by omega)).trans HW6.out)
    have EW7 := Aside0.mk ((hb.block _ (by omega)).trans EW6.out)
    clear hb
    go_wp2_with fail
    exact get_leave_bad _ _ _ _ _ _ _ _ _ _ _ _ _ _ _ _ _ _ _ _ rfl rfl HW7.out EW7.out (by omega) (fun W' hW => ⟨by rw [getT_bad hS h1 hz (readH_none (by simp [hx]))]; rfl, HBW7.out.trans (hW _ (by omega) (by omega))⟩)
  have Xt := Aside0.mk hx
  clear hx
  refine (rfield_ok p S 136 12 t W6 HRW6.out (by omega) (by omega) (by decide) Xt.out).mono ?_
  rintro e W7 ⟨rfl, hr, hb⟩
  have HRW7 : Aside0 (Rd W7 p S 148) := ⟨hr⟩
  have HBW7 := Aside0.mk (HBW6.out.trans (hb.mono (by omega)))
  have HW7 := Aside0.mk ((hb.block _ (by omega)).trans HW6.out)
  have EW7 := Aside0.mk ((hb.block _ (by omega)).trans EW6.out)
  clear hb hr
  have c4 : W7.cell? ⟨w.heap.size, 4, none⟩ = some (.int .i64 0) := blk_cell HW7.out 4
  have f4 := blk_frozen HW7.out 4
  have c5 : W7.cell? ⟨w.heap.size, 5, none⟩ = some (.int .i64 0) := blk_cell HW7.out 5
  have f5 := blk_frozen HW7.out 5
  have hlt := blk_lt HW7.out
  go_wp2_with fail
  have a0 := HW7.out
  have a1 := blk_hit (i := 4) (v := (.int .i64 z)) a0
  simp only [List.setIfInBounds_toArray, List.set_cons_zero, List.set_cons_succ] at a1
  have a2 := blk_hit (i := 5) (v := (.int .i64 t)) a1
  simp only [List.setIfInBounds_toArray, List.set_cons_zero, List.set_cons_succ] at a2
  have hs : W7.heap.size = ((W7.setCell ⟨w.heap.size, 4, none⟩ (.int .i64 z)).setCell ⟨w.heap.size, 5, none⟩ (.int .i64 t)).heap.size := by simp
  have e1 : ((W7.setCell ⟨w.heap.size, 4, none⟩ (.int .i64 z)).setCell ⟨w.heap.size, 5, none⟩ (.int .i64 t)).heap[w.heap.size + 1]? = _ := (blk_miss (blk_miss EW7.out (Nat.succ_ne_self _)) (Nat.succ_ne_self _))
  have r1 : Rd ((W7.setCell ⟨w.heap.size, 4, none⟩ (.int .i64 z)).setCell ⟨w.heap.size, 5, none⟩ (.int .i64 t)) p S 148 := ⟨(blk_miss (blk_miss HRW7.out.blk hpn) hpn)⟩
  have b1 : Below w.heap.size w ((W7.setCell ⟨w.heap.size, 4, none⟩ (.int .i64 z)).setCell ⟨w.heap.size, 5, none⟩ (.int .i64 t)) := (Below.setCell (Below.setCell HBW7.out (Nat.le_refl _) _) (Nat.le_refl _) _)
  generalize ((W7.setCell ⟨w.heap.size, 4, none⟩ (.int .i64 z)).setCell ⟨w.heap.size, 5, none⟩ (.int .i64 t)) = W8 at a2 e1 r1 b1 hs ⊢
  have HW8 := Aside0.mk a2
  have EW8 := Aside0.mk e1
  have HRW8 := Aside0.mk r1
  have HBW8 := Aside0.mk b1
  clear a0 a1 a2 e1 r1 b1 hs hlt c4 f4 c5 f5
  go_wp2_with fail
  refine (take_is p S 148 8 j1 HJ1.out W8 HRW8.out (by omega) (by omega)).mono ?_
  rintro e W9 ⟨rfl, hr, hb⟩
  have HRW9 : Aside0 (Rd W9 p S 156) := ⟨hr⟩
  have HBW9 := Aside0.mk (HBW8.out.trans (hb.mono (by omega)))
  have HW9 := Aside0.mk ((hb.block _ (by omega)).trans HW8.out)
  have EW9 := Aside0.mk ((hb.block _ (by omega)).trans EW8.out)
  clear hb hr
  go_wp2_with fail
  have hty0 : ∀ h, (mkS [ty])[0]'h = ty := fun _ => rfl
  refine wp_normal ?_
  go_region_with (first
    | (go_at_call 20; refine (take_is p S 156 1 [ty] HONE.out _ ?_ (by omega) (by omega)).mono ?_; exact ⟨HRW9.out.blk⟩; rintro e W10 ⟨rfl, hr, hb⟩; have HRW10 : Aside0 (Rd W10 p S 157) := ⟨hr⟩; have HBW10 := Aside0.mk (HBW9.out.drew.trans (hb.mono (by omega))); have HW10 := Aside0.mk (Eq.trans (hb.block _ (by omega)) HW9.out); have EW10 := Aside0.mk (Eq.trans (hb.block _ (by omega)) EW9.out); clear hb hr)
    | (go_at_call 18; refine (rtext_is p S 157 100 lk HLK.out _ w HG.out ?_ hwp ?_ (by omega) (by omega)).mono ?_; exact HBW10.out; exact ⟨HRW10.out.blk⟩; rintro e W11 ⟨rfl, hr, hb⟩; have HRW11 : Aside0 (Rd W11 p S 257) := ⟨hr⟩; have HBW11 := Aside0.mk (HBW10.out.trans (hb.mono (by omega))); have HW11 := Aside0.mk ((hb.block _ (by omega)).trans HW10.out); have EW11 := Aside0.mk ((hb.block _ (by omega)).trans EW10.out); clear hb hr; have c6 : W11.cell? ⟨w.heap.size, 6, none⟩ = some (.int .u8 0) := blk_cell HW11.out 6; have f6 := blk_frozen HW11.out 6; have c7 : W11.cell? ⟨w.heap.size, 7, none⟩ = some (.string ⟨#[]⟩) := blk_cell HW11.out 7; have f7 := blk_frozen HW11.out 7; have hlt := blk_lt HW11.out))
  all_goals
    simp only [OnNormal, hty0]
    go_wp2_with fail
    clear hty0
    have a0 := HW11.out
    have a1 := blk_hit (i := 6) (v := (.int .u8 (ty.toNat : Int))) a0
    simp only [List.setIfInBounds_toArray, List.set_cons_zero, List.set_cons_succ] at a1
    have a2 := blk_hit (i := 7) (v := (.string (mkS lk))) a1
    simp only [List.setIfInBounds_toArray, List.set_cons_zero, List.set_cons_succ] at a2
    have hs : W11.heap.size = ((W11.setCell ⟨w.heap.size, 6, none⟩ (.int .u8 (ty.toNat : Int))).setCell ⟨w.heap.size, 7, none⟩ (.string (mkS lk))).heap.size := by simp
    have e1 : ((W11.setCell ⟨w.heap.size, 6, none⟩ (.int .u8 (ty.toNat : Int))).setCell ⟨w.heap.size, 7, none⟩ (.string (mkS lk))).heap[w.heap.size + 1]? = _ := (blk_miss (blk_miss EW11.out (Nat.succ_ne_self _)) (Nat.succ_ne_self _))
    have r1 : Rd ((W11.setCell ⟨w.heap.size, 6, none⟩ (.int .u8 (ty.toNat : Int))).setCell ⟨w.heap.size, 7, none⟩ (.string (mkS lk))) p S 257 := ⟨(blk_miss (blk_miss HRW11.out.blk hpn) hpn)⟩
    have b1 : Below w.heap.size w ((W11.setCell ⟨w.heap.size, 6, none⟩ (.int .u8 (ty.toNat : Int))).setCell ⟨w.heap.size, 7, none⟩ (.string (mkS lk))) := (Below.setCell (Below.setCell HBW11.out (Nat.le_refl _) _) (Nat.le_refl _) _)
    generalize ((W11.setCell ⟨w.heap.size, 6, none⟩ (.int .u8 (ty.toNat : Int))).setCell ⟨w.heap.size, 7, none⟩ (.string (mkS lk))) = W12 at a2 e1 r1 b1 hs ⊢
    have HW12 := Aside0.mk a2
    have EW12 := Aside0.mk e1
    have HRW12 := Aside0.mk r1
    have HBW12 := Aside0.mk b1
    clear a0 a1 a2 e1 r1 b1 hs hlt c6 f6 c7 f7
    go_wp2_with fail
    refine (take_is p S 257 8 j2 HJ2.out W12 HRW12.out (by omega) (by omega)).mono ?_
    rintro e W13 ⟨rfl, hr, hb⟩
    have HRW13 : Aside0 (Rd W13 p S 265) := ⟨hr⟩
    have HBW13 := Aside0.mk (HBW12.out.trans (hb.mono (by omega)))
    have HW13 := Aside0.mk ((hb.block _ (by omega)).trans HW12.out)
    have EW13 := Aside0.mk ((hb.block _ (by omega)).trans EW12.out)
    clear hb hr
    go_wp2_with fail
    refine (rtext_is p S 265 32 un HUN.out W13 w HG.out HBW13.out hwp HRW13.out (by omega) (by omega)).mono ?_
    rintro e W14 ⟨rfl, hr, hb⟩
    have HRW14 : Aside0 (Rd W14 p S 297) := ⟨hr⟩
    have HBW14 := Aside0.mk (HBW13.out.trans (hb.mono (by omega)))
    have HW14 := Aside0.mk ((hb.block _ (by omega)).trans HW13.out)
    have EW14 := Aside0.mk ((hb.block _ (by omega)).trans EW13.out)
    clear hb hr
    go_wp2_with fail
    refine (rtext_is p S 297 32 gn HGN.out W14 w HG.out HBW14.out hwp HRW14.out (by omega) (by omega)).mono ?_
    rintro e W15 ⟨rfl, hr, hb⟩
    have HRW15 : Aside0 (Rd W15 p S 329) := ⟨hr⟩
    have HBW15 := Aside0.mk (HBW14.out.trans (hb.mono (by omega)))
    have HW15 := Aside0.mk ((hb.block _ (by omega)).trans HW14.out)
    have EW15 := Aside0.mk ((hb.block _ (by omega)).trans EW14.out)
    clear hb hr
    have c8 : W15.cell? ⟨w.heap.size, 8, none⟩ = some (.string ⟨#[]⟩) := blk_cell HW15.out 8
    have f8 := blk_frozen HW15.out 8
    have c9 : W15.cell? ⟨w.heap.size, 9, none⟩ = some (.string ⟨#[]⟩) := blk_cell HW15.out 9
    have f9 := blk_frozen HW15.out 9
    have hlt := blk_lt HW15.out
    go_wp2_with fail
    have a0 := HW15.out
    have a1 := blk_hit (i := 8) (v := (.string (mkS un))) a0
    simp only [List.setIfInBounds_toArray, List.set_cons_zero, List.set_cons_succ] at a1
    have a2 := blk_hit (i := 9) (v := (.string (mkS gn))) a1
    simp only [List.setIfInBounds_toArray, List.set_cons_zero, List.set_cons_succ] at a2
    have hs : W15.heap.size = ((W15.setCell ⟨w.heap.size, 8, none⟩ (.string (mkS un))).setCell ⟨w.heap.size, 9, none⟩ (.string (mkS gn))).heap.size := by simp
    have e1 : ((W15.setCell ⟨w.heap.size, 8, none⟩ (.string (mkS un))).setCell ⟨w.heap.size, 9, none⟩ (.string (mkS gn))).heap[w.heap.size + 1]? = _ := (blk_miss (blk_miss EW15.out (Nat.succ_ne_self _)) (Nat.succ_ne_self _))
    have r1 : Rd ((W15.setCell ⟨w.heap.size, 8, none⟩ (.string (mkS un))).setCell ⟨w.heap.size, 9, none⟩ (.string (mkS gn))) p S 329 := ⟨(blk_miss (blk_miss HRW15.out.blk hpn) hpn)⟩
    have b1 : Below w.heap.size w ((W15.setCell ⟨w.heap.size, 8, none⟩ (.string (mkS un))).setCell ⟨w.heap.size, 9, none⟩ (.string (mkS gn))) := (Below.setCell (Below.setCell HBW15.out (Nat.le_refl _) _) (Nat.le_refl _) _)
    generalize ((W15.setCell ⟨w.heap.size, 8, none⟩ (.string (mkS un))).setCell ⟨w.heap.size, 9, none⟩ (.string (mkS gn))) = W16 at a2 e1 r1 b1 hs ⊢
    have HW16 := Aside0.mk a2
    have EW16 := Aside0.mk e1
    have HRW16 := Aside0.mk r1
    have HBW16 := Aside0.mk b1
    clear a0 a1 a2 e1 r1 b1 hs hlt c8 f8 c9 f9
    go_wp2_with fail
    rcases hx : numAt S 329 8 with _ | ma
    · refine (rfield_bad p S 329 8 W16 HRW16.out (by omega) (by omega) (by decide) hx).mono ?_
      rintro e W17 ⟨rfl, hb⟩
      have HBW17 := Aside0.mk (HBW16.out.trans (hb.mono (by omega)))
      have HW17 := Aside0.mk ((hb.block _ (by omega)).trans HW16.out)
      have EW17 := Aside0.mk ((hb.block _ (by omega)).trans EW16.out)
      clear hb
      go_wp2_with fail
      exact get_leave_bad _ _ _ _ _ _ _ _ _ _ _ _ _ _ _ _ _ _ _ _ rfl rfl HW17.out EW17.out (by omega) (fun W' hW => ⟨by rw [getT_bad hS h1 hz (readH_none (by simp [hx]))]; rfl, HBW17.out.trans (hW _ (by omega) (by omega))⟩)
    have Xma := Aside0.mk hx
    clear hx
    refine (rfield_ok p S 329 8 ma W16 HRW16.out (by omega) (by omega) (by decide) Xma.out).mono ?_
    rintro e W17 ⟨rfl, hr, hb⟩
    have HRW17 : Aside0 (Rd W17 p S 337) := ⟨hr⟩
    have HBW17 := Aside0.mk (HBW16.out.trans (hb.mono (by omega)))
    have HW17 := Aside0.mk ((hb.block _ (by omega)).trans HW16.out)
    have EW17 := Aside0.mk ((hb.block _ (by omega)).trans EW16.out)
    clear hb hr
    go_wp2_with fail
    rcases hx : numAt S 337 8 with _ | mi
    · refine (rfield_bad p S 337 8 W17 HRW17.out (by omega) (by omega) (by decide) hx).mono ?_
      rintro e W18 ⟨rfl, hb⟩
      have HBW18 := Aside0.mk (HBW17.out.trans (hb.mono (by omega)))
      have HW18 := Aside0.mk ((hb.block _ (by omega)).trans HW17.out)
      have EW18 := Aside0.mk ((hb.block _ (by omega)).trans EW17.out)
      clear hb
      go_wp2_with fail
      exact get_leave_bad _ _ _ _ _ _ _ _ _ _ _ _ _ _ _ _ _ _ _ _ rfl rfl HW18.out EW18.out (by omega) (fun W' hW => ⟨by rw [getT_bad hS h1 hz (readH_none (by simp [hx]))]; rfl, HBW18.out.trans (hW _ (by omega) (by omega))⟩)
    have Xmi := Aside0.mk hx
    clear hx
    refine (rfield_ok p S 337 8 mi W17 HRW17.out (by omega) (by omega) (by decide) Xmi.out).mono ?_
    rintro e W18 ⟨rfl, hr, hb⟩
    have HRW18 : Aside0 (Rd W18 p S 345) := ⟨hr⟩
    have HBW18 := Aside0.mk (HBW17.out.trans (hb.mono (by omega)))
    have HW18 := Aside0.mk ((hb.block _ (by omega)).trans HW17.out)
    have EW18 := Aside0.mk ((hb.block _ (by omega)).trans EW17.out)
    clear hb hr
    go_wp2_with fail
    refine (rtext_is p S 345 155 pr HPR.out W18 w HG.out HBW18.out hwp HRW18.out (by omega) (by omega)).mono ?_
    rintro e W19 ⟨rfl, hr, hb⟩
    have HRW19 : Aside0 (Rd W19 p S 500) := ⟨hr⟩
    have HBW19 := Aside0.mk (HBW18.out.trans (hb.mono (by omega)))
    have HW19 := Aside0.mk ((hb.block _ (by omega)).trans HW18.out)
    have EW19 := Aside0.mk ((hb.block _ (by omega)).trans EW18.out)
    clear hb hr
    have c0 : W19.cell? ⟨w.heap.size, 0, none⟩ = some (.string (mkS nm)) := blk_cell HW19.out 0
    have f0 := blk_frozen HW19.out 0
    have c1 : W19.cell? ⟨w.heap.size, 1, none⟩ = some (.int .i64 m) := blk_cell HW19.out 1
    have f1 := blk_frozen HW19.out 1
    have c2 : W19.cell? ⟨w.heap.size, 2, none⟩ = some (.int .i64 u) := blk_cell HW19.out 2
    have f2 := blk_frozen HW19.out 2
    have c3 : W19.cell? ⟨w.heap.size, 3, none⟩ = some (.int .i64 g) := blk_cell HW19.out 3
    have f3 := blk_frozen HW19.out 3
    have c4 : W19.cell? ⟨w.heap.size, 4, none⟩ = some (.int .i64 z) := blk_cell HW19.out 4
    have f4 := blk_frozen HW19.out 4
    have c5 : W19.cell? ⟨w.heap.size, 5, none⟩ = some (.int .i64 t) := blk_cell HW19.out 5
    have f5 := blk_frozen HW19.out 5
    have c6 : W19.cell? ⟨w.heap.size, 6, none⟩ = some (.int .u8 (ty.toNat : Int)) := blk_cell HW19.out 6
    have f6 := blk_frozen HW19.out 6
    have c7 : W19.cell? ⟨w.heap.size, 7, none⟩ = some (.string (mkS lk)) := blk_cell HW19.out 7
    have f7 := blk_frozen HW19.out 7
    have c8 : W19.cell? ⟨w.heap.size, 8, none⟩ = some (.string (mkS un)) := blk_cell HW19.out 8
    have f8 := blk_frozen HW19.out 8
    have c9 : W19.cell? ⟨w.heap.size, 9, none⟩ = some (.string (mkS gn)) := blk_cell HW19.out 9
    have f9 := blk_frozen HW19.out 9
    have c10 : W19.cell? ⟨w.heap.size, 10, none⟩ = some (.int .i64 0) := blk_cell HW19.out 10
    have f10 := blk_frozen HW19.out 10
    have c11 : W19.cell? ⟨w.heap.size, 11, none⟩ = some (.int .i64 0) := blk_cell HW19.out 11
    have f11 := blk_frozen HW19.out 11
    have c12 : W19.cell? ⟨w.heap.size, 12, none⟩ = some (.string ⟨#[]⟩) := blk_cell HW19.out 12
    have f12 := blk_frozen HW19.out 12
    have hlt := blk_lt HW19.out
    go_wp2_with fail
    clear c0 f0 c1 f1 c2 f2 c3 f3 c4 f4 c5 f5 c6 f6 c7 f7 c8 f8 c9 f9
    have a0 := HW19.out
    have a1 := blk_hit (i := 10) (v := (.int .i64 ma)) a0
    simp only [List.setIfInBounds_toArray, List.set_cons_zero, List.set_cons_succ] at a1
    have a2 := blk_hit (i := 11) (v := (.int .i64 mi)) a1
    simp only [List.setIfInBounds_toArray, List.set_cons_zero, List.set_cons_succ] at a2
    have a3 := blk_hit (i := 12) (v := (.string (mkS pr))) a2
    simp only [List.setIfInBounds_toArray, List.set_cons_zero, List.set_cons_succ] at a3
    have hs : W19.heap.size = (((W19.setCell ⟨w.heap.size, 10, none⟩ (.int .i64 ma)).setCell ⟨w.heap.size, 11, none⟩ (.int .i64 mi)).setCell ⟨w.heap.size, 12, none⟩ (.string (mkS pr))).heap.size := by simp
    have e1 : (((W19.setCell ⟨w.heap.size, 10, none⟩ (.int .i64 ma)).setCell ⟨w.heap.size, 11, none⟩ (.int .i64 mi)).setCell ⟨w.heap.size, 12, none⟩ (.string (mkS pr))).heap[w.heap.size + 1]? = _ := (blk_miss (blk_miss (blk_miss EW19.out (Nat.succ_ne_self _)) (Nat.succ_ne_self _)) (Nat.succ_ne_self _))
    have r1 : Rd (((W19.setCell ⟨w.heap.size, 10, none⟩ (.int .i64 ma)).setCell ⟨w.heap.size, 11, none⟩ (.int .i64 mi)).setCell ⟨w.heap.size, 12, none⟩ (.string (mkS pr))) p S 500 := ⟨(blk_miss (blk_miss (blk_miss HRW19.out.blk hpn) hpn) hpn)⟩
    have b1 : Below w.heap.size w (((W19.setCell ⟨w.heap.size, 10, none⟩ (.int .i64 ma)).setCell ⟨w.heap.size, 11, none⟩ (.int .i64 mi)).setCell ⟨w.heap.size, 12, none⟩ (.string (mkS pr))) := (Below.setCell (Below.setCell (Below.setCell HBW19.out (Nat.le_refl _) _) (Nat.le_refl _) _) (Nat.le_refl _) _)
    generalize (((W19.setCell ⟨w.heap.size, 10, none⟩ (.int .i64 ma)).setCell ⟨w.heap.size, 11, none⟩ (.int .i64 mi)).setCell ⟨w.heap.size, 12, none⟩ (.string (mkS pr))) = W20 at a3 e1 r1 b1 hs ⊢
    have HW20 := Aside0.mk a3
    have EW20 := Aside0.mk e1
    have HRW20 := Aside0.mk r1
    have HBW20 := Aside0.mk b1
    clear a0 a1 a2 a3 e1 r1 b1 hs hlt c10 f10 c11 f11 c12 f12
    have hrd := readH_some_of Xm.out Xu.out Xg.out Xz.out Xt.out Xma.out Xmi.out
    have hft := readH_fits hL Xm.out Xu.out Xg.out Xz.out Xt.out Xma.out Xmi.out
    rw [HNM.out, HTY.out, HLK.out, HUN.out, HGN.out, HPR.out] at hrd hft
    have hgt := getT_read hS h1 hz hrd
    clear hrd
    by_cases hput : putT ⟨nm, m, u, g, z, t, ty, lk, un, gn, ma, mi, pr⟩ = S
    · rw [if_pos hput] at hgt
      have HD := Aside0.mk (congrArg gotH hgt)
      have HPUT := Aside0.mk hput
      have HFT := Aside0.mk hft
      clear hput hft hgt
      refine (put_is ⟨nm, m, u, g, z, t, ty, lk, un, gn, ma, mi, pr⟩ S HPUT.out _ (HG.out.below HBW20.out) HFT.out).mono ?_
      rintro e WP ⟨rfl, hb⟩
      have HP := Aside0.mk ((hb.block _ (blk_lt HW20.out)).trans HW20.out)
      have EP := Aside0.mk ((hb.block _ (blk_lt EW20.out)).trans EW20.out)
      have HB := Aside0.mk (below_next HBW20.out hb (Nat.le_refl _))
      clear hb
      have c0 : WP.cell? ⟨w.heap.size, 0, none⟩ = some (.string (mkS nm)) := blk_cell HP.out 0
      have f0 := blk_frozen HP.out 0
      have c1 : WP.cell? ⟨w.heap.size, 1, none⟩ = some (.int .i64 m) := blk_cell HP.out 1
      have f1 := blk_frozen HP.out 1
      have c2 : WP.cell? ⟨w.heap.size, 2, none⟩ = some (.int .i64 u) := blk_cell HP.out 2
      have f2 := blk_frozen HP.out 2
      have c3 : WP.cell? ⟨w.heap.size, 3, none⟩ = some (.int .i64 g) := blk_cell HP.out 3
      have f3 := blk_frozen HP.out 3
      have c4 : WP.cell? ⟨w.heap.size, 4, none⟩ = some (.int .i64 z) := blk_cell HP.out 4
      have f4 := blk_frozen HP.out 4
      have c5 : WP.cell? ⟨w.heap.size, 5, none⟩ = some (.int .i64 t) := blk_cell HP.out 5
      have f5 := blk_frozen HP.out 5
      have c6 : WP.cell? ⟨w.heap.size, 6, none⟩ = some (.int .u8 (ty.toNat : Int)) := blk_cell HP.out 6
      have f6 := blk_frozen HP.out 6
      have c7 : WP.cell? ⟨w.heap.size, 7, none⟩ = some (.string (mkS lk)) := blk_cell HP.out 7
      have f7 := blk_frozen HP.out 7
      have c8 : WP.cell? ⟨w.heap.size, 8, none⟩ = some (.string (mkS un)) := blk_cell HP.out 8
      have f8 := blk_frozen HP.out 8
      have c9 : WP.cell? ⟨w.heap.size, 9, none⟩ = some (.string (mkS gn)) := blk_cell HP.out 9
      have f9 := blk_frozen HP.out 9
      have c10 : WP.cell? ⟨w.heap.size, 10, none⟩ = some (.int .i64 ma) := blk_cell HP.out 10
      have f10 := blk_frozen HP.out 10
      have c11 : WP.cell? ⟨w.heap.size, 11, none⟩ = some (.int .i64 mi) := blk_cell HP.out 11
      have f11 := blk_frozen HP.out 11
      have c12 : WP.cell? ⟨w.heap.size, 12, none⟩ = some (.string (mkS pr)) := blk_cell HP.out 12
      have f12 := blk_frozen HP.out 12
      have d0 : WP.cell? ⟨w.heap.size + 1, 0, none⟩ = some (.int .i64 0) := blk_cell EP.out 0
      have k0 := blk_frozen EP.out 0
      have l0 := blk_lt HP.out
      have l1 := blk_lt EP.out
      go_wp2
      have a0 := HP.out
      have b0 := EP.out
      have a1 := blk_hit (i := 0) (v := .string (mkS nm)) a0
      simp only [List.setIfInBounds_toArray, List.set_cons_zero, List.set_cons_succ] at a1
      have b1 := blk_miss (g' := w.heap.size) (i := 0) (v := .string (mkS nm)) b0 (Nat.succ_ne_self _)
      have a2 := blk_hit (i := 1) (v := .int .i64 m) a1
      simp only [List.setIfInBounds_toArray, List.set_cons_zero, List.set_cons_succ] at a2
      have b2 := blk_miss (g' := w.heap.size) (i := 1) (v := .int .i64 m) b1 (Nat.succ_ne_self _)
      have a3 := blk_hit (i := 2) (v := .int .i64 u) a2
      simp only [List.setIfInBounds_toArray, List.set_cons_zero, List.set_cons_succ] at a3
      have b3 := blk_miss (g' := w.heap.size) (i := 2) (v := .int .i64 u) b2 (Nat.succ_ne_self _)
      have a4 := blk_hit (i := 3) (v := .int .i64 g) a3
      simp only [List.setIfInBounds_toArray, List.set_cons_zero, List.set_cons_succ] at a4
      have b4 := blk_miss (g' := w.heap.size) (i := 3) (v := .int .i64 g) b3 (Nat.succ_ne_self _)
      have a5 := blk_hit (i := 4) (v := .int .i64 z) a4
      simp only [List.setIfInBounds_toArray, List.set_cons_zero, List.set_cons_succ] at a5
      have b5 := blk_miss (g' := w.heap.size) (i := 4) (v := .int .i64 z) b4 (Nat.succ_ne_self _)
      have a6 := blk_hit (i := 5) (v := .int .i64 t) a5
      simp only [List.setIfInBounds_toArray, List.set_cons_zero, List.set_cons_succ] at a6
      have b6 := blk_miss (g' := w.heap.size) (i := 5) (v := .int .i64 t) b5 (Nat.succ_ne_self _)
      have a7 := blk_hit (i := 6) (v := .int .u8 (ty.toNat : Int)) a6
      simp only [List.setIfInBounds_toArray, List.set_cons_zero, List.set_cons_succ] at a7
      have b7 := blk_miss (g' := w.heap.size) (i := 6) (v := .int .u8 (ty.toNat : Int)) b6 (Nat.succ_ne_self _)
      have a8 := blk_hit (i := 7) (v := .string (mkS lk)) a7
      simp only [List.setIfInBounds_toArray, List.set_cons_zero, List.set_cons_succ] at a8
      have b8 := blk_miss (g' := w.heap.size) (i := 7) (v := .string (mkS lk)) b7 (Nat.succ_ne_self _)
      have a9 := blk_hit (i := 8) (v := .string (mkS un)) a8
      simp only [List.setIfInBounds_toArray, List.set_cons_zero, List.set_cons_succ] at a9
      have b9 := blk_miss (g' := w.heap.size) (i := 8) (v := .string (mkS un)) b8 (Nat.succ_ne_self _)
      have a10 := blk_hit (i := 9) (v := .string (mkS gn)) a9
      simp only [List.setIfInBounds_toArray, List.set_cons_zero, List.set_cons_succ] at a10
      have b10 := blk_miss (g' := w.heap.size) (i := 9) (v := .string (mkS gn)) b9 (Nat.succ_ne_self _)
      have a11 := blk_hit (i := 10) (v := .int .i64 ma) a10
      simp only [List.setIfInBounds_toArray, List.set_cons_zero, List.set_cons_succ] at a11
      have b11 := blk_miss (g' := w.heap.size) (i := 10) (v := .int .i64 ma) b10 (Nat.succ_ne_self _)
      have a12 := blk_hit (i := 11) (v := .int .i64 mi) a11
      simp only [List.setIfInBounds_toArray, List.set_cons_zero, List.set_cons_succ] at a12
      have b12 := blk_miss (g' := w.heap.size) (i := 11) (v := .int .i64 mi) b11 (Nat.succ_ne_self _)
      have a13 := blk_hit (i := 12) (v := .string (mkS pr)) a12
      simp only [List.setIfInBounds_toArray, List.set_cons_zero, List.set_cons_succ] at a13
      have b13 := blk_miss (g' := w.heap.size) (i := 12) (v := .string (mkS pr)) b12 (Nat.succ_ne_self _)
      have a14 := blk_miss (g' := w.heap.size + 1) (i := 0) (v := .int .i64 0) a13 (Nat.succ_ne_self _).symm
      have b14 := blk_hit (i := 0) (v := .int .i64 0) b13
      simp only [List.setIfInBounds_toArray, List.set_cons_zero, List.set_cons_succ] at b14
      exact get_leave_idle _ _ _ _ _ _ _ _ _ _ _ _ _ _ _ _ _ _ _ rfl rfl a14 b14 ⟨congrArg Ending.returned HD.out.symm, (Below.setCell (Below.setCell (Below.setCell (Below.setCell (Below.setCell (Below.setCell (Below.setCell (Below.setCell (Below.setCell (Below.setCell (Below.setCell (Below.setCell (Below.setCell (Below.setCell HB.out (Nat.le_refl _) _) (Nat.le_refl _) _) (Nat.le_refl _) _) (Nat.le_refl _) _) (Nat.le_refl _) _) (Nat.le_refl _) _) (Nat.le_refl _) _) (Nat.le_refl _) _) (Nat.le_refl _) _) (Nat.le_refl _) _) (Nat.le_refl _) _) (Nat.le_refl _) _) (Nat.le_refl _) _) (Nat.le_succ _) _)⟩
    · rw [if_neg hput] at hgt
      have HD := Aside0.mk (congrArg gotH hgt)
      obtain ⟨pt, hpt⟩ : ∃ pt, putT ⟨nm, m, u, g, z, t, ty, lk, un, gn, ma, mi, pr⟩ = pt := ⟨_, rfl⟩
      rw [hpt] at hput
      have hne : (pt == S) = false := beq_eq_false_iff_ne.2 hput
      have HPUT := Aside0.mk hpt
      have HFT := Aside0.mk hft
      clear hput hft hgt hpt
      refine (put_is ⟨nm, m, u, g, z, t, ty, lk, un, gn, ma, mi, pr⟩ pt HPUT.out _ (HG.out.below HBW20.out) HFT.out).mono ?_
      rintro e WP ⟨rfl, hb⟩
      have HP := Aside0.mk ((hb.block _ (blk_lt HW20.out)).trans HW20.out)
      have EP := Aside0.mk ((hb.block _ (blk_lt EW20.out)).trans EW20.out)
      have HB := Aside0.mk (below_next HBW20.out hb (Nat.le_refl _))
      have RP := (HRW20.out.below hb).blk
      have c1 : WP.cell? ⟨p, 1, none⟩ = some (.int .i64 500) := blk_cell RP 1
      have lp := blk_lt RP
      clear hb RP
      go_wp2
      exact get_leave_bad _ _ _ _ _ _ _ _ _ _ _ _ _ _ _ _ _ _ _ _ rfl rfl HP.out EP.out (by omega) (fun W' hW => ⟨congrArg Ending.returned HD.out.symm, HB.out.trans (hW _ (by omega) (by omega))⟩)
theorem get_any (s : List UInt8) (hl : s.length ≤ 1000000) (w : World) (hG : Good w) :
    Calls Tryz.prog 5 #[.string (mkS s)] w fun e w' => e = .returned (gotH (getT s)) ∧ Below w.heap.size w w' := by
  by_cases h : s.length < 512
  · exact get_more s w h
  · by_cases hz : (s.take 512).all (fun c => c == 0) = true
    · exact get_zero s _ rfl (by omega) hl hz w
    · exact get_main s _ rfl (by omega) hl hz w hG
theorem get_is (s : List UInt8) (r : Except Int Hd) (h : getT s = r) (hl : s.length ≤ 1000000) (w : World) (hG : Good w) :
    Calls Tryz.prog 5 #[.string (mkS s)] w fun e w' => e = .returned (gotH r) ∧ Below w.heap.size w w' := by
  subst h; exact get_any s hl w hG
end Go.Proofs.YtpmiddhdgidimaaGreatDoor
