/- What the library's tables hold: kept by whatever only makes memory. Itoa, Atoi by the shelf's contracts. -/
import Derived.Test.YtfdfpgkfhcmlcaaDoorBase
import Derived.Test.YtfdfpgkfhcmlcaaDoorPlain
import Derived.Test.YtfdfpgkfhcmlcaaDoorShelf
import Derived.ChangeAgain
import Derived.Lib.LaidTab
import Derived.Lib.SmallJoins
set_option linter.unusedVariables false
set_option linter.unusedSimpArgs false
namespace Go.Proofs.YtfdfpgkfhcmlcaaDoor
open Go.RowKit Go.Sort Go.Proofs.YtfdfpgkfhcmlcaaDoorW.PrintWords

theorem gPow : Tryd.prog.globalNamed "internal/strconv.uint64pow10" = some 4 := by kernel_rfl
/-- The library's variables are as they were laid. -/
structure Good (w : World) : Prop where
  shaped : w.ShapedOpen Tryd.prog
  pow : Lib.TabIs Tryd.prog w "internal/strconv.uint64pow10" .u64 Lib.pow10Tab
  synt : ∃ te pe, w.cell? ⟨2, 0, none⟩ = some (.iface te pe)
  rng : ∃ te pe, w.cell? ⟨3, 0, none⟩ = some (.iface te pe)
theorem lt_of_cell {w : World} {a : Addr} {v : Value} (h : w.cell? a = some v) : a.block < w.heap.size := World.block_lt_of_cell? w a h
theorem Good.below {w w' : World} (h : Good w) (hb : Below w.heap.size w w') : Good w' := by
  obtain ⟨t1, p1, s1⟩ := h.synt
  obtain ⟨t2, p2, s2⟩ := h.rng
  refine ⟨h.shaped.keptBut (may := fun _ => False) (hb.frame _) (fun _ h => h.elim), ?_, ⟨t1, p1, ?_⟩, ⟨t2, p2, ?_⟩⟩
  · exact Joins.tab_stays gPow h.pow hb (Nat.le_refl _)
  · exact (hb.cell (lt_of_cell s1)).trans s1
  · exact (hb.cell (lt_of_cell s2)).trans s2

theorem below_grow (w : World) (k : Nat) (os : Array Obj) : Below w.heap.size w (grow (w.drewN k) os) := by
  refine ⟨rfl, rfl, rfl, by simp [grow], fun i hi => ?_⟩
  show ((w.heap ++ os))[i]? = w.heap[i]?
  rw [Array.getElem?_append_left hi]
theorem below_bytes (w : World) (e : TypeId) (t : ByteArray) : Below w.heap.size w (Lib.bytesWorld w e t) :=
  ⟨rfl, rfl, rfl, by rw [Lib.bytesWorld_size]; omega, fun i hi => Lib.bytesWorld_at_old w e t i hi⟩

theorem itoa_any (n : Int) (w : World) (hG : Good w) (h0 : -9223372036854775808 ≤ n) (h1 : n ≤ 9223372036854775807) :
    Calls Tryd.prog 24 #[.int .i64 n] w fun e w' => e = .returned (.string (mkS (Lib.itoa n))) ∧ Below w.heap.size w w' :=
  (Tryd.strconv_Itoa n h0 h1 w hG.pow).mono fun e w' ⟨he, k, os, hw⟩ => ⟨he, hw ▸ below_grow w k os⟩

/-- The call's second result is an error. -/
def AtoiBad (e : Ending) : Prop := ∃ v te p, e = .returned (.tuple #[.int .i64 v, .iface te p])
theorem atoi_ok (s : ByteArray) (v : Int) (w : World) (hs : s.size ≤ 140737488355328) (h : Lib.atoiAll s.data.toList = .ok v) :
    Calls Tryd.prog 29 #[.string s] w fun e w' => e = .returned (.tuple #[.int .i64 v, .nilIface]) ∧ Below w.heap.size w w' :=
  (Tryd.strconv_Atoi_ok s (by omega) v h w).mono fun e w' ⟨he, hw⟩ => ⟨he, by
    rcases hw with rfl | ⟨t, rfl⟩
    · exact Below.refl _ _
    · exact below_bytes w _ t⟩
theorem atoi_bad (s : ByteArray) (w : World) (hG : Good w) (hs : s.size ≤ 140737488355328) (h : ∀ v, Lib.atoiAll s.data.toList ≠ .ok v) :
    Calls Tryd.prog 29 #[.string s] w fun e w' => AtoiBad e ∧ Below w.heap.size w w' := by
  rcases hc : Lib.atoiAll s.data.toList with v | _ | _
  · exact absurd hc (h v)
  · obtain ⟨te, pe, hv⟩ := hG.synt
    exact (Tryd.strconv_Atoi_syntax s (by omega) hc _ w hv (.inr ⟨te, pe, rfl⟩)).mono fun e w' ⟨N, he, _, _, hb⟩ => ⟨⟨_, _, _, he⟩, hb⟩
  · obtain ⟨te, pe, hv⟩ := hG.rng
    exact (Tryd.strconv_Atoi_range s (by omega) hc _ w hv (.inr ⟨te, pe, rfl⟩)).mono fun e w' ⟨N, he, _, _, hb⟩ => ⟨⟨_, _, _, he⟩, hb⟩

end Go.Proofs.YtfdfpgkfhcmlcaaDoor
