/- The reference's Field. -/
import Derived.Test.YtpmiddhdgidimaaDoorRefBase
set_option linter.unusedVariables false
set_option linter.unusedSimpArgs false
namespace Go.Proofs.YtpmiddhdgidimaaDoor
open Go.RowKit Go.Proofs.YtpmiddhdgidimaaDoorW.PrintWords

theorem rOctal_any (n : Int) (wd : Nat) (w : World) (hw : wd = 8 ∨ wd = 12) (hn0 : -9223372036854775808 ≤ n) (hn : n ≤ 9223372036854775807) :
    Calls Tryd.prog 29 #[.int .i64 n, .int .i64 (wd : Int)] w fun e w' => e = .returned (saidR (if octOk wd n = true then some (octL wd n.toNat) else none)) ∧ Below w.heap.size w w' := by
  by_cases h : n < 0
  · have : octOk wd n = false := by unfold octOk; rw [show decide (0 ≤ n) = false by simp; omega, Bool.false_and]
    rw [this]
    exact rOctal_neg n wd w hw h
  · obtain ⟨m, rfl⟩ : ∃ m : Nat, n = m := ⟨n.toNat, by omega⟩
    exact rOctal_pos m wd w hw (by omega)
theorem rBase_any (n : Int) (wd : Nat) (w : World) (hw : wd = 8 ∨ wd = 12) (hn0 : -9223372036854775808 ≤ n) (hn : n ≤ 9223372036854775807) :
    Calls Tryd.prog 30 #[.int .i64 n, .int .i64 (wd : Int)] w fun e w' => e = .returned (saidR (if baseOk wd n = true then some (baseL wd n) else none)) ∧ Below w.heap.size w w' := by
  cases hb : baseOk wd n with
  | true => exact rBase_near n wd w hw hn0 hn hb
  | false =>
    unfold baseOk at hb
    rcases hw with rfl | rfl
    · exact rBase_far n w (by simp at hb; omega)
    · simp at hb
theorem field_res (p : Nat) (x0 x1 : Value) (tmps : Array Value) (W : World) (t8 : tmps.getD 4 undef = .pointer (some ⟨p, 0, none⟩)) (H : W.heap[p]? = some (.cells #[x0, x1] 38)) :
    (results Tryd.f14 tmps).run Tryd.prog W = .ok (.agg #[x0, x1]) W := by
  have c0 : W.cell? ⟨p, 0, none⟩ = some x0 := blk_cell H 0
  have c1 : W.cell? ⟨p, 1, none⟩ = some x1 := blk_cell H 1
  clear H
  replace t8 : tmps[4]?.getD undef = .pointer (some ⟨p, 0, none⟩) := by simpa using t8
  simp only [results, Tryd.results14]
  simp [Sem.run_bind, Result.andThen, t8, go_sem, c0, c1]
set_option maxHeartbeats 4000000 in
set_option maxRecDepth 100000 in
theorem rField_any (n : Int) (wd : Nat) (w : World) (hw : wd = 8 ∨ wd = 12) (hn0 : -9223372036854775808 ≤ n) (hn : n ≤ 9223372036854775807) :
    Calls Tryd.prog 14 #[.int .i64 n, .int .i64 (wd : Int)] w fun e w' => e = .returned (saidR (fieldT n wd)) ∧ Below w.heap.size w w' := by
  have h1 := fun W => rOctal_any n wd W hw hn0 hn
  have h2 := fun W => rBase_any n wd W hw hn0 hn
  obtain ⟨res, hres⟩ : ∃ r, r = saidR (fieldT n wd) := ⟨_, rfl⟩
  rw [← hres]
  have HRES := Aside0.mk hres
  clear hres
  have H := heap_alloc_new w (.cells #[.string ⟨#[]⟩, .bool false] 38)
  have HB0 := Aside0.mk (below_alloc (Below.refl w.heap.size w) (.cells #[.string ⟨#[]⟩, .bool false] 38))
  cases ho : octOk wd n with
  | true =>
    simp only [ho, if_true, saidR] at h1
    have HO := Aside0.mk (show res = .agg #[.string (mkS (octL wd n.toNat)), .bool true] by rw [HRES.out]; unfold fieldT; rw [if_pos ho]; rfl)
    obtain ⟨L, hL⟩ : ∃ L, octL wd n.toNat = L := ⟨_, rfl⟩
    rw [hL] at h1 HO
    have H1 := Aside0.mk h1
    clear h1 h2 ho hL
    go_enter Tryd.func14, Tryd.ntmps14
    go_wp2_with fail
    refine (H1.out _).mono ?_
    rintro e w1 ⟨rfl, hb1⟩
    have H2 := Aside0.mk ((hb1.block _ (blk_lt H)).trans H)
    have B2 := Aside0.mk (below_next HB0.out hb1)
    clear hb1 H HB0
    have c0 : w1.cell? ⟨w.heap.size, 0, none⟩ = some (.string ⟨#[]⟩) := blk_cell H2.out 0
    have c1 : w1.cell? ⟨w.heap.size, 1, none⟩ = some (.bool false) := blk_cell H2.out 1
    have f0 := blk_frozen H2.out 0
    have f1 := blk_frozen H2.out 1
    have lh := blk_lt H2.out
    go_wp2_with fail
    have a1 := blk_hit (i := 0) (v := .string (mkS L)) H2.out
    have a2 := blk_hit (i := 1) (v := .bool true) a1
    simp only [List.setIfInBounds_toArray, List.set_cons_zero, List.set_cons_succ] at a2
    refine bodyPost_ret (field_res w.heap.size _ _ _ _ rfl (blk_alloc a2 _)) rfl ?_
    exact ⟨by rw [HO.out], below_alloc (Below.setCell (Below.setCell B2.out (Nat.le_refl _) _) (Nat.le_refl _) _) _⟩
  | false =>
    simp only [ho, Bool.false_eq_true, if_false, saidR] at h1
    have H1 := Aside0.mk h1
    obtain ⟨s, b, hsb⟩ : ∃ s b, saidR (if baseOk wd n = true then some (baseL wd n) else none) = .agg #[.string s, .bool b] := by
      cases (if baseOk wd n = true then some (baseL wd n) else none) with
      | some l => exact ⟨_, _, rfl⟩
      | none => exact ⟨_, _, rfl⟩
    have HO := Aside0.mk (show res = .agg #[.string s, .bool b] by rw [HRES.out, ← hsb]; unfold fieldT; rw [if_neg (by simp [ho])])
    rw [hsb] at h2
    have H2 := Aside0.mk h2
    clear h1 h2 ho hsb
    go_enter Tryd.func14, Tryd.ntmps14
    go_wp2_with fail
    refine (H1.out _).mono ?_
    rintro e w1 ⟨rfl, hb1⟩
    have G1 := Aside0.mk ((hb1.block _ (blk_lt H)).trans H)
    have B2 := Aside0.mk (below_next HB0.out hb1)
    clear hb1 H HB0
    go_wp2_with fail
    have G2 := Aside0.mk (blk_alloc G1.out (.cells #[.string ⟨#[]⟩, .bool false] 38))
    have B3 := Aside0.mk (below_alloc B2.out (.cells #[.string ⟨#[]⟩, .bool false] 38))
    refine (H2.out _).mono ?_
    rintro e w2 ⟨rfl, hb2⟩
    have G3 := Aside0.mk ((hb2.block _ (blk_lt G2.out)).trans G2.out)
    have B4 := Aside0.mk (below_next B3.out hb2)
    clear hb2
    have c0 : w2.cell? ⟨w.heap.size, 0, none⟩ = some (.string ⟨#[]⟩) := blk_cell G3.out 0
    have c1 : w2.cell? ⟨w.heap.size, 1, none⟩ = some (.bool false) := blk_cell G3.out 1
    have f0 := blk_frozen G3.out 0
    have f1 := blk_frozen G3.out 1
    have lh := blk_lt G3.out
    go_wp2_with fail
    have a1 := blk_hit (i := 0) (v := .string s) G3.out
    have a2 := blk_hit (i := 1) (v := .bool b) a1
    simp only [List.setIfInBounds_toArray, List.set_cons_zero, List.set_cons_succ] at a2
    refine bodyPost_ret (field_res w.heap.size _ _ _ _ rfl a2) rfl ?_
    exact ⟨by rw [HO.out], Below.setCell (Below.setCell B4.out (Nat.le_refl _) _) (Nat.le_refl _) _⟩
end Go.Proofs.YtpmiddhdgidimaaDoor
