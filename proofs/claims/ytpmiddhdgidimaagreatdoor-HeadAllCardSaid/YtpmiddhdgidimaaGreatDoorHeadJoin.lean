/- head.Join. -/
import Derived.Test.YtpmiddhdgidimaaGreatDoorHeadCells
set_option linter.unusedVariables false
set_option linter.unusedSimpArgs false
namespace Go.Proofs.YtpmiddhdgidimaaGreatDoor
open Go.RowKit Go.Proofs.YtpmiddhdgidimaaGreatDoorW.PrintWords

/-- A header's path. -/
def joinT (h : Hd) : List UInt8 := if h.pre = [] then h.name else h.pre ++ 47 :: h.name

set_option maxHeartbeats 2000000 in
set_option maxRecDepth 100000 in
theorem join_any (h : Hd) (w : World) (hn : h.name.length ≤ 140737488355328) (hp : h.pre.length ≤ 140737488355328) :
    Calls Tryz.prog 14 #[.agg (hdCells h)] w fun e w' => e = .returned (.string (mkS (joinT h))) ∧ Below w.heap.size w w' := by
  have HB0 := Aside0.mk (below_alloc (Below.refl w.heap.size w) (.cells (hdCells h) 23))
  obtain ⟨name, mode, uid, gid, size, mtime, typ, link, uname, gname, major, minor, pre⟩ := h
  simp only at hn hp
  rcases pre with _ | ⟨c, t⟩
  · have e0 : (mkS [] == (⟨#[]⟩ : ByteArray)) = true := by decide
    have HJ : joinT ⟨name, mode, uid, gid, size, mtime, typ, link, uname, gname, major, minor, []⟩ = name := rfl
    rw [HJ]
    clear HJ
    unfold hdCells at HB0 ⊢
    simp only at HB0 ⊢
    go_enter Tryz.func14, Tryz.ntmps14
    go_wp2
    go_ret
    exact ⟨rfl, HB0.out⟩
  · have HJ : joinT ⟨name, mode, uid, gid, size, mtime, typ, link, uname, gname, major, minor, c :: t⟩ = (c :: t) ++ 47 :: name := rfl
    rw [HJ]
    clear HJ
    have e0 : (c :: t).isEmpty = false := rfl
    obtain ⟨pre, hpre⟩ : ∃ pre, c :: t = pre := ⟨_, rfl⟩
    rw [hpre] at e0 hp HB0 ⊢
    clear hpre
    have a1 := fun W => str_add (P := Tryz.prog) (s := mkS pre) (t := ⟨#[47]⟩) (a := pre) (b := [47]) rfl rfl rfl (by simp; omega) W
    obtain ⟨p1, hp1⟩ : ∃ p1, pre ++ [47] = p1 := ⟨_, rfl⟩
    have hl : p1.length = pre.length + 1 := by rw [← hp1]; simp
    rw [hp1] at a1
    have a2 := fun W => str_add (P := Tryz.prog) (s := mkS p1) (t := mkS name) (a := p1) (b := name) rfl rfl rfl (by simp; omega) W
    have HE : pre ++ 47 :: name = p1 ++ name := by rw [← hp1]; simp
    rw [HE]
    clear HE hp1 hl
    unfold hdCells at HB0 ⊢
    simp only at HB0 ⊢
    go_enter Tryz.func14, Tryz.ntmps14
    go_wp2
    go_ret
    exact ⟨rfl, HB0.out⟩
end Go.Proofs.YtpmiddhdgidimaaGreatDoor
