/- head.Get's deferred closure. -/
import Derived.Test.YtpmiddhdgidimaaGreatDoorHeadTake
set_option linter.unusedVariables false
set_option linter.unusedSimpArgs false
namespace Go.Proofs.YtpmiddhdgidimaaGreatDoor
open Go.RowKit Go.Proofs.YtpmiddhdgidimaaGreatDoorW.PrintWords

theorem blk_hit {w : World} {p i : Nat} {C : Array Value} {t : TypeId} {v : Value} (h : w.heap[p]? = some (.cells C t)) : (w.setCell ⟨p, i, none⟩ v).heap[p]? = some (.cells (C.setIfInBounds i v) t) := by
  simp [World.setCell, Array.getElem?_modify, h]
/-- What Get's closure leaves. -/
def Caught (p q : Nat) (w w' : World) : Prop :=
  w'.heap[p]? = some (.cells #[.string ⟨#[]⟩, .int .i64 0, .int .i64 0, .int .i64 0, .int .i64 0, .int .i64 0, .int .u8 0, .string ⟨#[]⟩, .string ⟨#[]⟩, .string ⟨#[]⟩, .int .i64 0, .int .i64 0, .string ⟨#[]⟩] 23) ∧
  w'.heap[q]? = some (.cells #[.int .i64 4] 25) ∧ ∀ B, B ≤ p → B ≤ q → Below B w w'
set_option maxHeartbeats 2000000 in
set_option maxRecDepth 100000 in
/-- The deferred closure of Get, where the frame below panics with noHeader: the results are laid. -/
theorem get_catch (p q : Nat) (x0 x1 x2 x3 x4 x5 x6 x7 x8 x9 x10 x11 x12 y : Value) (n : Int) (older : List PanicEntry) (w : World)
    (hp : w.heap[p]? = some (.cells #[x0, x1, x2, x3, x4, x5, x6, x7, x8, x9, x10, x11, x12] 23)) (hq : w.heap[q]? = some (.cells #[y] 25))
    (hpq : ¬ p = q) :
    CallsD Tryz.prog 17 #[.pointer (some ⟨p, 0, none⟩), .pointer (some ⟨q, 0, none⟩)] (.panicking ({ v := .iface 43 (.agg #[.int .i64 n]), recovered := false } :: older)) w fun e u' w' =>
      e = .returned (.tuple #[]) ∧ u' = .panicking ({ v := .iface 43 (.agg #[.int .i64 n]), recovered := true } :: older) ∧ Caught p q w w' := by
  have hta := fun (W : World) => run_typeAssert_struct (P := Tryz.prog) 43 20 (.agg #[.int .i64 n]) W Tryz.underlying43
  have hpb := blk_lt hp
  have hqb := blk_lt hq
  have c0 : w.cell? ⟨p, 0, none⟩ = some x0 := blk_cell hp 0
  have f0 := blk_frozen hp 0
  have c1 : w.cell? ⟨p, 1, none⟩ = some x1 := blk_cell hp 1
  have f1 := blk_frozen hp 1
  have c2 : w.cell? ⟨p, 2, none⟩ = some x2 := blk_cell hp 2
  have f2 := blk_frozen hp 2
  have c3 : w.cell? ⟨p, 3, none⟩ = some x3 := blk_cell hp 3
  have f3 := blk_frozen hp 3
  have c4 : w.cell? ⟨p, 4, none⟩ = some x4 := blk_cell hp 4
  have f4 := blk_frozen hp 4
  have c5 : w.cell? ⟨p, 5, none⟩ = some x5 := blk_cell hp 5
  have f5 := blk_frozen hp 5
  have c6 : w.cell? ⟨p, 6, none⟩ = some x6 := blk_cell hp 6
  have f6 := blk_frozen hp 6
  have c7 : w.cell? ⟨p, 7, none⟩ = some x7 := blk_cell hp 7
  have f7 := blk_frozen hp 7
  have c8 : w.cell? ⟨p, 8, none⟩ = some x8 := blk_cell hp 8
  have f8 := blk_frozen hp 8
  have c9 : w.cell? ⟨p, 9, none⟩ = some x9 := blk_cell hp 9
  have f9 := blk_frozen hp 9
  have c10 : w.cell? ⟨p, 10, none⟩ = some x10 := blk_cell hp 10
  have f10 := blk_frozen hp 10
  have c11 : w.cell? ⟨p, 11, none⟩ = some x11 := blk_cell hp 11
  have f11 := blk_frozen hp 11
  have c12 : w.cell? ⟨p, 12, none⟩ = some x12 := blk_cell hp 12
  have f12 := blk_frozen hp 12
  have d0 : w.cell? ⟨q, 0, none⟩ = some y := blk_cell hq 0
  have k0 := blk_frozen hq 0
  have HP := Aside0.mk hp
  have HQ := Aside0.mk hq
  clear hp hq
  refine callsD_of_wpS Tryz.func17 rfl fun c₀ cs hu => ?_
  apply wpS_seq
  apply wpS_region
  simp [wpOpsS, go_sem, recoverD, hu, Tryz.ntmps17, Exit.thenS]
  refine wpS_of_wp ?_
  simp only [Array.replicate, List.replicate, List.setIfInBounds_toArray, List.set_cons_zero, List.set_cons_succ, List.append_toArray, List.cons_append, List.nil_append]
  go_wp2
  simp [bodyPostS, results, Tryz.results17]
  have a0 := HP.out
  have b0 := HQ.out
  have a1 := blk_hit (i := 0) (v := .string ⟨#[]⟩) a0
  simp only [List.setIfInBounds_toArray, List.set_cons_zero, List.set_cons_succ] at a1
  have b1 := blk_miss (g' := p) (i := 0) (v := .string ⟨#[]⟩) b0 (Ne.symm hpq)
  have a2 := blk_hit (i := 1) (v := .int .i64 0) a1
  simp only [List.setIfInBounds_toArray, List.set_cons_zero, List.set_cons_succ] at a2
  have b2 := blk_miss (g' := p) (i := 1) (v := .int .i64 0) b1 (Ne.symm hpq)
  have a3 := blk_hit (i := 2) (v := .int .i64 0) a2
  simp only [List.setIfInBounds_toArray, List.set_cons_zero, List.set_cons_succ] at a3
  have b3 := blk_miss (g' := p) (i := 2) (v := .int .i64 0) b2 (Ne.symm hpq)
  have a4 := blk_hit (i := 3) (v := .int .i64 0) a3
  simp only [List.setIfInBounds_toArray, List.set_cons_zero, List.set_cons_succ] at a4
  have b4 := blk_miss (g' := p) (i := 3) (v := .int .i64 0) b3 (Ne.symm hpq)
  have a5 := blk_hit (i := 4) (v := .int .i64 0) a4
  simp only [List.setIfInBounds_toArray, List.set_cons_zero, List.set_cons_succ] at a5
  have b5 := blk_miss (g' := p) (i := 4) (v := .int .i64 0) b4 (Ne.symm hpq)
  have a6 := blk_hit (i := 5) (v := .int .i64 0) a5
  simp only [List.setIfInBounds_toArray, List.set_cons_zero, List.set_cons_succ] at a6
  have b6 := blk_miss (g' := p) (i := 5) (v := .int .i64 0) b5 (Ne.symm hpq)
  have a7 := blk_hit (i := 6) (v := .int .u8 0) a6
  simp only [List.setIfInBounds_toArray, List.set_cons_zero, List.set_cons_succ] at a7
  have b7 := blk_miss (g' := p) (i := 6) (v := .int .u8 0) b6 (Ne.symm hpq)
  have a8 := blk_hit (i := 7) (v := .string ⟨#[]⟩) a7
  simp only [List.setIfInBounds_toArray, List.set_cons_zero, List.set_cons_succ] at a8
  have b8 := blk_miss (g' := p) (i := 7) (v := .string ⟨#[]⟩) b7 (Ne.symm hpq)
  have a9 := blk_hit (i := 8) (v := .string ⟨#[]⟩) a8
  simp only [List.setIfInBounds_toArray, List.set_cons_zero, List.set_cons_succ] at a9
  have b9 := blk_miss (g' := p) (i := 8) (v := .string ⟨#[]⟩) b8 (Ne.symm hpq)
  have a10 := blk_hit (i := 9) (v := .string ⟨#[]⟩) a9
  simp only [List.setIfInBounds_toArray, List.set_cons_zero, List.set_cons_succ] at a10
  have b10 := blk_miss (g' := p) (i := 9) (v := .string ⟨#[]⟩) b9 (Ne.symm hpq)
  have a11 := blk_hit (i := 10) (v := .int .i64 0) a10
  simp only [List.setIfInBounds_toArray, List.set_cons_zero, List.set_cons_succ] at a11
  have b11 := blk_miss (g' := p) (i := 10) (v := .int .i64 0) b10 (Ne.symm hpq)
  have a12 := blk_hit (i := 11) (v := .int .i64 0) a11
  simp only [List.setIfInBounds_toArray, List.set_cons_zero, List.set_cons_succ] at a12
  have b12 := blk_miss (g' := p) (i := 11) (v := .int .i64 0) b11 (Ne.symm hpq)
  have a13 := blk_hit (i := 12) (v := .string ⟨#[]⟩) a12
  simp only [List.setIfInBounds_toArray, List.set_cons_zero, List.set_cons_succ] at a13
  have b13 := blk_miss (g' := p) (i := 12) (v := .string ⟨#[]⟩) b12 (Ne.symm hpq)
  have a14 := blk_miss (i := 0) (v := .int .i64 4) a13 hpq
  have b14 := blk_hit (i := 0) (v := .int .i64 4) b13
  simp only [List.setIfInBounds_toArray, List.set_cons_zero, List.set_cons_succ] at b14
  refine ⟨blk_alloc a14 _, blk_alloc b14 _, fun B hB1 hB2 => ?_⟩
  exact Below.alloc (Below.setCell (Below.setCell (Below.setCell (Below.setCell (Below.setCell (Below.setCell (Below.setCell (Below.setCell (Below.setCell (Below.setCell (Below.setCell (Below.setCell (Below.setCell (Below.setCell (Below.refl B w) hB1 _) hB1 _) hB1 _) hB1 _) hB1 _) hB1 _) hB1 _) hB1 _) hB1 _) hB1 _) hB1 _) hB1 _) hB1 _) hB2 _) (by simp; omega) _
/-- The deferred closure, where the frame below returns: nothing. -/
theorem get_idle (a b : Value) (w : World) :
    CallsD Tryz.prog 17 #[a, b] .returning w fun e u' w' => e = .returned (.tuple #[]) ∧ u' = .returning ∧ w' = w := by
  refine callsD_of_wpS Tryz.func17 rfl fun c₀ cs hu => ?_
  apply wpS_seq
  apply wpS_region
  simp [wpOpsS, go_sem, recoverD, hu, Tryz.ntmps17, Exit.thenS]
  refine wpS_of_wp ?_
  simp only [Array.replicate, List.replicate, List.setIfInBounds_toArray, List.set_cons_zero, List.set_cons_succ, List.append_toArray, List.cons_append, List.nil_append]
  go_wp2
  cases c₀
  simp_all [bodyPostS, results, Tryz.results17]
end Go.Proofs.YtpmiddhdgidimaaGreatDoor
