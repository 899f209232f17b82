/- head.Get: how it ends. -/
import Derived.Test.YtpmiddhdgidimaaGreatDoorHeadCatch
import Derived.Test.YtpmiddhdgidimaaGreatDoorHeadReader
import Derived.Test.YtpmiddhdgidimaaGreatDoorHeadCells
set_option linter.unusedVariables false
set_option linter.unusedSimpArgs false
namespace Go.Proofs.YtpmiddhdgidimaaGreatDoor
open Go.RowKit Go.Proofs.YtpmiddhdgidimaaGreatDoorW.PrintWords

def gotH (r : Except Int Hd) : Value := match r with
  | .ok h => .tuple #[.agg (hdCells h), .int .i64 0]
  | .error n => .tuple #[.agg (hdCells hd0), .int .i64 n]
def hd0C : Array Value := #[.string ⟨#[]⟩, .int .i64 0, .int .i64 0, .int .i64 0, .int .i64 0, .int .i64 0, .int .u8 0, .string ⟨#[]⟩, .string ⟨#[]⟩, .string ⟨#[]⟩, .int .i64 0, .int .i64 0, .string ⟨#[]⟩]
theorem hd0C_eq : hdCells hd0 = hd0C := rfl
def GetDone (s : List UInt8) (w : World) (e : Ending) (w' : World) : Prop := e = .returned (gotH (getT s)) ∧ Below w.heap.size w w'
set_option maxRecDepth 100000 in
theorem get_res (p q : Nat) (x0 x1 x2 x3 x4 x5 x6 x7 x8 x9 x10 x11 x12 v : Value) (tmps : Array Value) (W : World) (t2 : tmps.getD 2 undef = .pointer (some ⟨p, 0, none⟩)) (t3 : tmps.getD 3 undef = .pointer (some ⟨q, 0, none⟩))
    (H : W.heap[p]? = some (.cells #[x0, x1, x2, x3, x4, x5, x6, x7, x8, x9, x10, x11, x12] 23)) (E : W.heap[q]? = some (.cells #[v] 25)) :
    (results Tryz.f5 tmps).run Tryz.prog W = .ok (.tuple #[.agg #[x0, x1, x2, x3, x4, x5, x6, x7, x8, x9, x10, x11, x12], v]) W := by
  have c0 : W.cell? ⟨p, 0, none⟩ = some x0 := blk_cell H 0
  have c1 : W.cell? ⟨p, 1, none⟩ = some x1 := blk_cell H 1
  have c2 : W.cell? ⟨p, 2, none⟩ = some x2 := blk_cell H 2
  have c3 : W.cell? ⟨p, 3, none⟩ = some x3 := blk_cell H 3
  have c4 : W.cell? ⟨p, 4, none⟩ = some x4 := blk_cell H 4
  have c5 : W.cell? ⟨p, 5, none⟩ = some x5 := blk_cell H 5
  have c6 : W.cell? ⟨p, 6, none⟩ = some x6 := blk_cell H 6
  have c7 : W.cell? ⟨p, 7, none⟩ = some x7 := blk_cell H 7
  have c8 : W.cell? ⟨p, 8, none⟩ = some x8 := blk_cell H 8
  have c9 : W.cell? ⟨p, 9, none⟩ = some x9 := blk_cell H 9
  have c10 : W.cell? ⟨p, 10, none⟩ = some x10 := blk_cell H 10
  have c11 : W.cell? ⟨p, 11, none⟩ = some x11 := blk_cell H 11
  have c12 : W.cell? ⟨p, 12, none⟩ = some x12 := blk_cell H 12
  have d0 : W.cell? ⟨q, 0, none⟩ = some v := blk_cell E 0
  clear H E
  replace t2 : tmps[2]?.getD undef = .pointer (some ⟨p, 0, none⟩) := by simpa using t2
  replace t3 : tmps[3]?.getD undef = .pointer (some ⟨q, 0, none⟩) := by simpa using t3
  simp only [results, Tryz.results5]
  simp [Sem.run_bind, Result.andThen, t2, t3, go_sem, c0, c1, c2, c3, c4, c5, c6, c7, c8, c9, c10, c11, c12, d0]
theorem get_leave (p q : Nat) (x0 x1 x2 x3 x4 x5 x6 x7 x8 x9 x10 x11 x12 v : Value) (tmps : Array Value) (W : World) (R : Ending → World → Prop) (t2 : tmps.getD 2 undef = .pointer (some ⟨p, 0, none⟩)) (t3 : tmps.getD 3 undef = .pointer (some ⟨q, 0, none⟩))
    (H : W.heap[p]? = some (.cells #[x0, x1, x2, x3, x4, x5, x6, x7, x8, x9, x10, x11, x12] 23)) (E : W.heap[q]? = some (.cells #[v] 25)) (hR : R (.returned (.tuple #[.agg #[x0, x1, x2, x3, x4, x5, x6, x7, x8, x9, x10, x11, x12], v])) W) :
    Leaves Tryz.prog Tryz.f5 tmps R [] .returning W := ⟨_, get_res p q x0 x1 x2 x3 x4 x5 x6 x7 x8 x9 x10 x11 x12 v tmps W t2 t3 H E, hR⟩
theorem get_leave_idle (p q : Nat) (x0 x1 x2 x3 x4 x5 x6 x7 x8 x9 x10 x11 x12 v : Value) (tmps : Array Value) (W : World) (R : Ending → World → Prop) (t2 : tmps.getD 2 undef = .pointer (some ⟨p, 0, none⟩)) (t3 : tmps.getD 3 undef = .pointer (some ⟨q, 0, none⟩))
    (H : W.heap[p]? = some (.cells #[x0, x1, x2, x3, x4, x5, x6, x7, x8, x9, x10, x11, x12] 23)) (E : W.heap[q]? = some (.cells #[v] 25)) (hR : R (.returned (.tuple #[.agg #[x0, x1, x2, x3, x4, x5, x6, x7, x8, x9, x10, x11, x12], v])) W) :
    Leaves Tryz.prog Tryz.f5 tmps R [{ target := .fn (.func 17) #[.pointer (some ⟨p, 0, none⟩), .pointer (some ⟨q, 0, none⟩)], args := #[] }] .returning W := by
  refine leaves_cons (f := 17) (args := #[.pointer (some ⟨p, 0, none⟩), .pointer (some ⟨q, 0, none⟩)]) (by simp) (by simp [go_sem]) ?_
  refine (get_idle _ _ _).mono ?_
  rintro e u' w'' ⟨rfl, rfl, rfl⟩
  exact get_leave p q x0 x1 x2 x3 x4 x5 x6 x7 x8 x9 x10 x11 x12 v tmps _ R t2 t3 H E hR
theorem get_leave_bad (p q : Nat) (x0 x1 x2 x3 x4 x5 x6 x7 x8 x9 x10 x11 x12 y : Value) (n : Int) (tmps : Array Value) (W : World) (R : Ending → World → Prop) (t2 : tmps.getD 2 undef = .pointer (some ⟨p, 0, none⟩)) (t3 : tmps.getD 3 undef = .pointer (some ⟨q, 0, none⟩))
    (H : W.heap[p]? = some (.cells #[x0, x1, x2, x3, x4, x5, x6, x7, x8, x9, x10, x11, x12] 23)) (E : W.heap[q]? = some (.cells #[y] 25)) (hpq : ¬ p = q) (hR : ∀ W', (∀ B, B ≤ p → B ≤ q → Below B W W') → R (.returned (.tuple #[.agg hd0C, .int .i64 4])) W') :
    Leaves Tryz.prog Tryz.f5 tmps R [{ target := .fn (.func 17) #[.pointer (some ⟨p, 0, none⟩), .pointer (some ⟨q, 0, none⟩)], args := #[] }] (.panicking (noHead n)) W := by
  refine leaves_cons (f := 17) (args := #[.pointer (some ⟨p, 0, none⟩), .pointer (some ⟨q, 0, none⟩)]) (by simp [noHead]) (by simp [go_sem]) ?_
  refine (get_catch p q x0 x1 x2 x3 x4 x5 x6 x7 x8 x9 x10 x11 x12 y n [] W H E hpq).mono ?_
  rintro e u' w'' ⟨rfl, rfl, hC, hE, hB⟩
  exact get_leave p q _ _ _ _ _ _ _ _ _ _ _ _ _ _ tmps _ R t2 t3 hC hE (hR _ hB)
theorem trim_zero (l t : List UInt8) (h : Lib.trimB l 0 = t) (w : World) (hs : l.length ≤ 1000000) :
    Calls Tryz.prog 16 #[.string (mkS l), .string ⟨#[0]⟩] w fun e w' => e = .returned (.string (mkS t)) ∧ Below w.heap.size w w' := by
  have h1 := strings_Trim.calls (mkS l) ⟨#[0]⟩ (mkS t) w (by
    unfold strings_Trim.f
    rw [show (⟨#[0]⟩ : ByteArray).data.toList = [0] from rfl]
    simp only
    rw [if_pos ⟨by decide, by simp; omega⟩, data_mkS, h]; rfl)
  exact h1.mono fun e w' ⟨he, hd⟩ => ⟨he, hd.below⟩
set_option maxHeartbeats 2000000 in
set_option maxRecDepth 100000 in
theorem get_more (s : List UInt8) (w : World) (hs : s.length < 512) :
    Calls Tryz.prog 5 #[.string (mkS s)] w (GetDone s w) := by
  have y0 : (s.length : Int) < 512 := by omega
  have HD := Aside0.mk (show gotH (getT s) = .tuple #[.agg hd0C, .int .i64 5] by rw [get_short s hs]; rfl)
  go_enter_defers Tryz.func5, Tryz.ntmps5
  go_wp2
  simp [bodyPostD, Leaves, settle, results, Tryz.results5, go_sem]
  exact ⟨congrArg Ending.returned HD.out.symm, below_alloc (below_alloc (Below.refl _ _) _) _⟩
end Go.Proofs.YtpmiddhdgidimaaGreatDoor
