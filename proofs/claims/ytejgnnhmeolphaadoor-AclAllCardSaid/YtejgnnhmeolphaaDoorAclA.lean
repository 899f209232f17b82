/- Access lists: the letters of three rights, by the document's text. -/
import Derived.Test.YtejgnnhmeolphaaDoorPlain
import Derived.Test.YtejgnnhmeolphaaDoorBase
import Derived.Test.YtejgnnhmeolphaaDoorKinds
set_option linter.unusedVariables false
set_option linter.unusedSimpArgs false
namespace Go.Proofs.YtejgnnhmeolphaaDoor
open Go.RowKit Go.Proofs.YtejgnnhmeolphaaDoorW.PrintWords

/-- The letters of three rights. -/
def rwxS (n : Int) : ByteArray := strOfNums [if Go.bits .and .i64 n 4 = 0 then 45 else 114, if Go.bits .and .i64 n 2 = 0 then 45 else 119, if Go.bits .and .i64 n 1 = 0 then 45 else 120]
theorem three_back (w : World) (a b c : Int) :
    (convert 22 9 (.slice (some ⟨w.heap.size, 0, none⟩) 3 3)).run Tryd.prog (w.alloc (.cells #[.int .u8 a, .int .u8 b, .int .u8 c] 5 (3, 4))) = .ok (.string (strOfNums [a, b, c])) (w.alloc (.cells #[.int .u8 a, .int .u8 b, .int .u8 c] 5 (3, 4))) := by
  refine run_convert_bytes_arg (P := Tryd.prog) _ 22 5 Tryd.underlying22 Tryd.underlying5 w.heap.size 0 3 3 [a, b, c] rfl (fun i hi => ?_) 9 Tryd.underlying9
  have : i = 0 ∨ i = 1 ∨ i = 2 := by omega
  rw [marked_cell _ _ _ _ _ _ rfl]
  rcases this with rfl | rfl | rfl <;> rfl

set_option maxHeartbeats 1000000 in
set_option maxRecDepth 20000 in
theorem rwx_any (n : Int) (w : World) : Calls Tryd.prog 37 #[.int .i64 n] w fun e w' => e = .returned (.string (rwxS n)) ∧ Below w.heap.size w w' := by
  have hcv := Lib.run_convert_bytes_const (P := Tryd.prog) w 22 5 #[.int .u8 45, .int .u8 45, .int .u8 45] 3 3 Tryd.underlying22 Tryd.underlying5
  have hbk := three_back w
  have HF : rwxS n = strOfNums [if Go.bits .and .i64 n 4 = 0 then 45 else 114, if Go.bits .and .i64 n 2 = 0 then 45 else 119, if Go.bits .and .i64 n 1 = 0 then 45 else 120] := rfl
  by_cases h4 : Go.bits .and .i64 n 4 = 0 <;> by_cases h2 : Go.bits .and .i64 n 2 = 0 <;> by_cases h1 : Go.bits .and .i64 n 1 = 0
  all_goals
    simp only [h4, h2, h1, if_true, if_false] at HF
    have H0 := Aside0.mk HF
    clear HF
    have b4 : (Go.bits .and .i64 n 4 != 0) = !(decide (Go.bits .and .i64 n 4 = 0)) := rfl
    have b2 : (Go.bits .and .i64 n 2 != 0) = !(decide (Go.bits .and .i64 n 2 = 0)) := rfl
    have b1 : (Go.bits .and .i64 n 1 != 0) = !(decide (Go.bits .and .i64 n 1 = 0)) := rfl
    simp only [h4, h2, h1, decide_true, decide_false, Bool.not_true, Bool.not_false] at b4 b2 b1
    go_enter Tryd.func37, Tryd.ntmps37
    go_wp2
    (go_ret; exact ⟨by rw [H0.out]; rfl, by go_grown⟩)
def gripsackref9_rwx.f (a0 : Int) : Option ByteArray := some (rwxS a0)
theorem gripsackref9_rwx.calls (a0 : Int) (r : ByteArray) (w : World) (h : gripsackref9_rwx.f a0 = some r) :
    Calls Tryd.prog 37 #[.int .i64 a0] w fun e w' => e = .returned (.string r) ∧ Below w.heap.size w w' := by
  obtain rfl := Option.some.inj h
  exact rwx_any a0 w
end Go.Proofs.YtejgnnhmeolphaaDoor
