/- A new row of bytes 0, and the string of it. -/
import Derived.Test.YtpmiddhdgidimaaGreatDoorStr
set_option linter.unusedVariables false
set_option linter.unusedSimpArgs false
namespace Go.Proofs.YtpmiddhdgidimaaGreatDoor
open Go.RowKit Go.Proofs.YtpmiddhdgidimaaGreatDoorW.PrintWords

theorem info_byte : (Tryz.prog.info? 5).map (fun i => (i.zero, i.size, i.bytes)) = some (some (.int .u8 0), 1, 1) := by kernel_rfl
/-- 'make([]byte, n)', and its string. -/
theorem zeros_world (n : Nat) (hn : n ≤ 1000000) (w : World) : ∃ W, (Instr.makeSlice 40 (.int .i64 (n : Int)) (.int .i64 (n : Int))).run Tryz.prog w = .ok (.slice (some ⟨w.heap.size, 0, none⟩) n n) W ∧ Below w.heap.size w W ∧ W.heap.size = w.heap.size + 1 ∧
    (convert 40 9 (.slice (some ⟨w.heap.size, 0, none⟩) n n)).run Tryz.prog W = .ok (.string (mkS (List.replicate n 0))) W := by
  refine ⟨_, run_make_row' (P := Tryz.prog) 40 5 (.int .u8 0) 1 Tryz.underlying40 info_byte rfl .i64 .i64 n (by omega) (by omega) w, (Below.refl _ _).alloc (Nat.le_refl _) _, by simp, ?_⟩
  have hB : Bytes (w.alloc (.cells (madeCells #[.int .u8 0] n) 5)) w.heap.size (List.replicate n 0) := by
    refine ⟨fun j hj => ?_, fun j hj => ?_, by simp⟩
    · rw [World.cell?_alloc_at _ _ _ _ (by simp)]
      rw [List.length_replicate] at hj
      have h2 : (madeCells #[Value.int .u8 0] n).toList[j]? = some (.int .u8 0) := by rw [toList_madeCells_one, List.getElem?_replicate, if_pos hj]
      rw [← Array.getElem?_toList, h2]
      simp [List.getD_eq_getElem?_getD, hj]
    · exact blk_frozen (heap_alloc_new w (.cells (madeCells #[.int .u8 0] n) 5)) j
  exact hB.back 40 9 5 n n (by simp) Tryz.underlying40 Tryz.underlying5 Tryz.underlying9
end Go.Proofs.YtpmiddhdgidimaaGreatDoor
