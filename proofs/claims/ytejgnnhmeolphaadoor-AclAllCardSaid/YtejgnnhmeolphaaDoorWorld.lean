/- What the library's tables hold: kept by whatever only makes memory. Itoa, Atoi, Split, Join by the shelf's contracts. -/
import Derived.Test.YtejgnnhmeolphaaDoorBase
import Derived.Test.YtejgnnhmeolphaaDoorPlainSplit
import Derived.Test.YtejgnnhmeolphaaDoorShelf
import Derived.ChangeAgain
import Derived.Lib.LaidTab
import Derived.Lib.SmallJoins
set_option linter.unusedVariables false
set_option linter.unusedSimpArgs false
namespace Go.Proofs.YtejgnnhmeolphaaDoor
open Go.RowKit Go.Sort Go.Proofs.YtejgnnhmeolphaaDoorW.PrintWords

theorem gPow : Tryd.prog.globalNamed "internal/strconv.uint64pow10" = some 3 := by kernel_rfl
/-- The library's variables are as they were laid. -/
structure Good (w : World) : Prop where
  shaped : w.ShapedOpen Tryd.prog
  pow : Lib.TabIs Tryd.prog w "internal/strconv.uint64pow10" .u64 Lib.pow10Tab
  synt : ∃ te pe, w.cell? ⟨1, 0, none⟩ = some (.iface te pe)
  rng : ∃ te pe, w.cell? ⟨2, 0, none⟩ = some (.iface te pe)
theorem lt_of_cell {w : World} {a : Addr} {v : Value} (h : w.cell? a = some v) : a.block < w.heap.size := World.block_lt_of_cell? w a h
theorem Good.below {w w' : World} (h : Good w) (hb : Below w.heap.size w w') : Good w' := by
  obtain ⟨t1, p1, s1⟩ := h.synt
  obtain ⟨t2, p2, s2⟩ := h.rng
  refine ⟨h.shaped.keptBut (may := fun _ => False) (hb.frame _) (fun _ h => h.elim), ?_, ⟨t1, p1, ?_⟩, ⟨t2, p2, ?_⟩⟩
  · exact Joins.tab_stays gPow h.pow hb (Nat.le_refl _)
  · exact (hb.cell (lt_of_cell s1)).trans s1
  · exact (hb.cell (lt_of_cell s2)).trans s2

theorem below_grow (w : World) (k : Nat) (os : Array Obj) : Below w.heap.size w (grow (w.drewN k) os) := by
  refine ⟨rfl, rfl, rfl, by simp [grow], fun i hi => ?_⟩
  show ((w.heap ++ os))[i]? = w.heap[i]?
  rw [Array.getElem?_append_left hi]
theorem below_bytes (w : World) (e : TypeId) (t : ByteArray) : Below w.heap.size w (Lib.bytesWorld w e t) :=
  ⟨rfl, rfl, rfl, by rw [Lib.bytesWorld_size]; omega, fun i hi => Lib.bytesWorld_at_old w e t i hi⟩

theorem itoa_any (n : Int) (w : World) (hG : Good w) (h0 : -9223372036854775808 ≤ n) (h1 : n ≤ 9223372036854775807) :
    Calls Tryd.prog 29 #[.int .i64 n] w fun e w' => e = .returned (.string (mkS (Lib.itoa n))) ∧ Below w.heap.size w w' :=
  (Tryd.strconv_Itoa n h0 h1 w hG.pow).mono fun e w' ⟨he, k, os, hw⟩ => ⟨he, hw ▸ below_grow w k os⟩

/-- The call's second result is an error. -/
def AtoiBad (e : Ending) : Prop := ∃ v te p, e = .returned (.tuple #[.int .i64 v, .iface te p])
theorem atoi_ok (s : ByteArray) (v : Int) (w : World) (hs : s.size ≤ 140737488355328) (h : Lib.atoiAll s.data.toList = .ok v) :
    Calls Tryd.prog 41 #[.string s] w fun e w' => e = .returned (.tuple #[.int .i64 v, .nilIface]) ∧ Below w.heap.size w w' :=
  (Tryd.strconv_Atoi_ok s (by omega) v h w).mono fun e w' ⟨he, hw⟩ => ⟨he, by
    rcases hw with rfl | ⟨t, rfl⟩
    · exact Below.refl _ _
    · exact below_bytes w _ t⟩
theorem atoi_bad (s : ByteArray) (w : World) (hG : Good w) (hs : s.size ≤ 140737488355328) (h : ∀ v, Lib.atoiAll s.data.toList ≠ .ok v) :
    Calls Tryd.prog 41 #[.string s] w fun e w' => AtoiBad e ∧ Below w.heap.size w w' := by
  rcases hc : Lib.atoiAll s.data.toList with v | _ | _
  · exact absurd hc (h v)
  · obtain ⟨te, pe, hv⟩ := hG.synt
    exact (Tryd.strconv_Atoi_syntax s (by omega) hc _ w hv (.inr ⟨te, pe, rfl⟩)).mono fun e w' ⟨N, he, _, _, hb⟩ => ⟨⟨_, _, _, he⟩, hb⟩
  · obtain ⟨te, pe, hv⟩ := hG.rng
    exact (Tryd.strconv_Atoi_range s (by omega) hc _ w hv (.inr ⟨te, pe, rfl⟩)).mono fun e w' ⟨N, he, _, _, hb⟩ => ⟨⟨_, _, _, he⟩, hb⟩

theorem split_any (l : List UInt8) (c : UInt8) (w : World) (hG : Good w) (hs : l.length < 4294967281) :
    Calls Tryd.prog 24 #[.string (mkS l), .string ⟨#[c]⟩] w fun e w' =>
      e = .returned (.slice (some ⟨w.heap.size, 0, none⟩) (splitOn c l).length (splitOn c l).length) ∧ w' = w.alloc (.cells (((splitOn c l).map mkS).map Value.string).toArray 9) := by
  have h := Tryd.strings_Split_shaped (mkS l) ⟨#[c]⟩ w hG.shaped (by simpa using hs) (Nat.le_refl 1)
  rw [countB_on, splitB_on] at h
  exact h
theorem join_any (bk c : Nat) (xs : List (List UInt8)) (sep : UInt8) (w : World) (hcells : ∀ (j : Nat) x, xs[j]? = some x → w.cell? ⟨bk, j, none⟩ = some (.string (mkS x))) (hbk : bk < w.heap.size) (hN : xs.length ≤ 140737488355328) (hcap : xs.length ≤ c) (hlen : (Lib.join xs [sep]).length ≤ 140737488355328) :
    Calls Tryd.prog 31 #[.slice (some ⟨bk, 0, none⟩) xs.length c, .string ⟨#[sep]⟩] w fun e w' => e = .returned (.string (mkS (Lib.join xs [sep]))) ∧ Below w.heap.size w w' := by
  have e : (xs.map mkS).map (fun s => s.data.toList) = xs := by rw [List.map_map]; conv => rhs; rw [← List.map_id xs]
                                                                apply List.map_congr_left; intro x _; simp
  have h := Tryd.strings_Join bk 0 c (xs.map mkS) ⟨#[sep]⟩ w (fun j x hx => by
    rw [List.getElem?_map] at hx
    obtain ⟨y, hy, rfl⟩ := Option.map_eq_some_iff.1 hx
    rw [Nat.zero_add]; exact hcells j y hy) hbk (by simpa using hN) (by simpa using hcap) (by rw [e]; exact hlen)
  rw [e, List.length_map] at h
  exact h
end Go.Proofs.YtejgnnhmeolphaaDoor
