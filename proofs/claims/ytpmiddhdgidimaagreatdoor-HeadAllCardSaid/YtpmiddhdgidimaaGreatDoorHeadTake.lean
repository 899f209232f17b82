/- head's reader: take. -/
import Derived.Test.YtpmiddhdgidimaaGreatDoorBase
import Derived.Test.YtpmiddhdgidimaaGreatDoorHeadPlain
set_option linter.unusedVariables false
set_option linter.unusedSimpArgs false
namespace Go.Proofs.YtpmiddhdgidimaaGreatDoor
open Go.RowKit Go.Proofs.YtpmiddhdgidimaaGreatDoorW.PrintWords

/-- The block p is a reader over s, at a. -/
structure Rd (W : World) (p : Nat) (s : List UInt8) (a : Nat) : Prop where
  blk : W.heap[p]? = some (.cells #[.string (mkS s), .int .i64 (a : Int)] 47)
theorem set_second (w : World) (p : Nat) (x y v : Value) (t : TypeId) (h : w.heap[p]? = some (.cells #[x, y] t)) : (w.setCell ⟨p, 1, none⟩ v).heap[p]? = some (.cells #[x, v] t) := by
  simp only [World.setCell, Array.getElem?_modify]
  simp [h]
set_option maxHeartbeats 2000000 in
set_option maxRecDepth 100000 in
theorem take_any (p : Nat) (s : List UInt8) (a n : Nat) (w : World) (hr : Rd w p s a) (h : a + n ≤ s.length) (hs : s.length ≤ 1000) :
    Calls Tryz.prog 20 #[.pointer (some ⟨p, 0, none⟩), .int .i64 (n : Int)] w fun e w' => e = .returned (.string (mkS (part s a n))) ∧ Rd w' p s (a + n) ∧ Below p w w' := by
  have g0 := hr.blk
  have c0 : w.cell? ⟨p, 0, none⟩ = some (.string (mkS s)) := blk_cell g0 0
  have c1 : w.cell? ⟨p, 1, none⟩ = some (.int .i64 (a : Int)) := blk_cell g0 1
  have f0 := blk_frozen g0 0
  have f1 := blk_frozen g0 1
  have l0 := blk_lt g0
  have HR := Aside0.mk hr
  clear hr g0
  obtain ⟨b, hb⟩ : ∃ b, a + n = b := ⟨_, rfl⟩
  have e1 : (a : Int) + n = b := by omega
  have x1 : (mkS s).extract a b = mkS (part s a n) := by rw [extract_mkS, ← hb, Nat.add_sub_cancel_left]; rfl
  have y0 : (0 : Int) ≤ a := by omega
  have y1 : (a : Int) ≤ b := by omega
  have y2 : (b : Int) ≤ s.length := by omega
  have y3 : (0 : Int) ≤ b := by omega
  have y4 : IntKind.i64.wrap (b : Int) = b := by simp only [IntKind.wrap_i64]; omega
  rw [hb]
  go_enter Tryz.func20, Tryz.ntmps20
  go_wp2
  go_region
  go_wp2
  go_ret
  refine ⟨rfl, ⟨?_⟩, ?_⟩
  · exact set_second w p _ _ _ _ HR.out.blk
  · exact ((Below.refl p w).setCell (Nat.le_refl _) _).drew
end Go.Proofs.YtpmiddhdgidimaaGreatDoor
