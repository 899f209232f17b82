/- A map's block while a literal fills it. -/
import Derived.Test.YtpmiddhdgidimaaGreatDoorHeadCells
import Derived.MapFrom
set_option linter.unusedVariables false
set_option linter.unusedSimpArgs false
namespace Go.Proofs.YtpmiddhdgidimaaGreatDoor
open Go.RowKit Go.Proofs.YtpmiddhdgidimaaGreatDoorW.PrintWords

/-- The map at r holds just the entries of L: a string's bytes, a number. -/
structure Holds (W : World) (r : Nat) (L : List (List UInt8 × Int)) : Prop where
  ex : ∃ es clock, W.heap[r]? = some (.map es clock) ∧ es.toList.map (fun x => (x.key, x.val)) = L.map (fun t => (Value.string (mkS t.1), Value.int .i64 t.2)) ∧ MapKept.Stamped es clock

theorem holds_new (W : World) : Holds (W.alloc (.map #[] 0)) W.heap.size [] :=
  ⟨#[], 0, heap_alloc_new W _, rfl, MapKept.stamped_empty 0⟩
/-- A key that is not there yet. -/
theorem holds_insert {W : World} {r : Nat} {L : List (List UInt8 × Int)} (h : Holds W r L) (s : List UInt8) (n : Int) (hs : ∀ t ∈ L, t.1 ≠ s) :
    ∃ W', (Instr.mapUpdate 55 (.map (some r)) (.string (mkS s)) (.int .i64 n)).run Tryz.prog W = .ok () W' ∧ Holds W' r (L ++ [(s, n)]) ∧ (∀ base, base ≤ r → Below base W W') := by
  obtain ⟨es, clock, hb, hL, hst⟩ := h.ex
  have hks : ∀ x ∈ es.toList, ∃ t ∈ L, x.key = .string (mkS t.1) := by
    intro x hx
    have : (x.key, x.val) ∈ es.toList.map (fun x => (x.key, x.val)) := List.mem_map.2 ⟨x, hx, rfl⟩
    rw [hL] at this
    obtain ⟨t, ht, he⟩ := List.mem_map.1 this
    exact ⟨t, ht, (congrArg Prod.fst he).symm⟩
  have hu := Tryz.underlying55
  have hd := Tryz.underlying9
  have hk : MapKept.IsKey .string (.string (mkS s)) := by simp [MapKept.IsKey]
  have hkk : ∀ x ∈ es.toList, MapKept.IsKey .string x.key := by
    intro x hx
    obtain ⟨t, _, he⟩ := hks x hx
    rw [he]; simp [MapKept.IsKey]
  rcases MapKept.findNow_spec hk es.toList 0 hkk with ⟨h1, h2⟩ | ⟨j, e, h1, h2, h3⟩
  · refine ⟨_, by simp [Instr.mapUpdate, run_underlying hu, MapKept.run_getObj_map hb, MapKept.run_checkKey hd hk, MapKept.run_findKey hd h1, MapKept.run_setObj_map _ hb, Result.andThen]; rfl, ⟨_, _, (MapKept.heap_set hb).1, ?_, MapKept.stamped_push hst h2⟩, ?_⟩
    · simp [hL]
    · intro base hbase
      exact ⟨rfl, rfl, rfl, by simp, fun k hk => by rw [Array.getElem?_setIfInBounds_ne (by omega)]⟩
  · exfalso
    have hm : e ∈ es.toList := by
      have : es.toList[j]? = some e := by simpa using h2
      exact List.mem_of_getElem? this
    obtain ⟨t, ht, he⟩ := hks e hm
    rw [h3] at he
    exact hs t ht (mkS_inj.1 (Value.string.inj he)).symm
end Go.Proofs.YtpmiddhdgidimaaGreatDoor
