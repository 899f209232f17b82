/- What all texts of this seat import: the kit's words for walks, deferred calls and panics, and small lemmas. -/
import Derived.Test.YtpmiddhdgidimaaGreatDoorProg
import Derived.Below
import Derived.Deep.Draws
import Derived.Deep.AppendLies
import Derived.Maps.AppendAt
import Derived.OwnWalk
import Derived.Laws.BytesArg
import Derived.Laws.MakeOwn
import Derived.Laws.OwnMore
import Derived.Deep.OwnRows
import Derived.Tactics
import Derived.Tactics2
import Derived.Lib.ConvBytes
import Derived.Laws.Slices
import Derived.WalkKit
import Derived.KernelRfl
import Derived.RowKit3
import Derived.Deep.LoopGhost
import Derived.Deep.QuietTactic
import Derived.BigQuiet
import Derived.WideLaws
import Derived.Deep.DeepCutAuto
import Derived.Deep.CutBlock
import Derived.Deep.RegionHeld3
import Derived.Laws.Rows
import Derived.Lib.AppendStr
import Derived.ArgAppend
import Derived.Laws.IdiomCopy
import Derived.OrdersHeld
import Derived.Laws.BitsLemmas
import Derived.RowKit
import Derived.WalkLawsBesides
import Derived.WalkSpells
import Derived.WalkSmall
import Derived.Defers
import Derived.Recover
import Derived.Laws.Pointers
import Derived.Laws.DeepStrings4
import Derived.Outline
import Derived.Handy
import Derived.Lib.Hide
import Derived.Lib.SlBytesConst
import Derived.Lib.SmallJoins
set_option linter.unusedVariables false
set_option linter.unusedSimpArgs false
namespace Go.Proofs.YtpmiddhdgidimaaGreatDoor
open Go.RowKit

/- Draws outermost, as the walk has one draw. -/
@[go_sem] theorem alloc_drewN (w : World) (n : Nat) (o : Obj) : (w.drewN n).alloc o = (w.alloc o).drewN n := rfl
@[go_sem] theorem setCell_drewN (w : World) (n : Nat) (a : Addr) (v : Value) : (w.drewN n).setCell a v = (w.setCell a v).drewN n := rfl
theorem below_drewN {B : Nat} {w w' : World} (h : Below B w w') (n : Nat) : Below B w (w'.drewN n) := ⟨h.os, h.tape, h.output, h.size, h.block⟩

theorem below_next {B : Nat} {w w1 w2 : World} (h : Below B w w1) (k : Below w1.heap.size w1 w2) (hB : B ≤ w.heap.size := by exact Nat.le_refl _) : Below B w w2 :=
  h.trans ⟨k.os, k.tape, k.output, k.size, fun i hi => k.block i (Nat.lt_of_lt_of_le hi (Nat.le_trans hB h.size))⟩

/- A new block that bears a conversion's mark behind its cells. -/
@[go_sem] theorem marked_cell (w : World) (C : Array Value) (t : TypeId) (fr : Nat × Nat) (n j : Nat) (hn : n = w.heap.size) : (w.alloc (.cells C t fr)).cell? ⟨n, j, none⟩ = C[j]? := by
  subst hn; exact World.cell?_alloc_mark w C t fr j
@[go_sem] theorem marked_frozen (w : World) (C : Array Value) (t : TypeId) (lo hi n j : Nat) (hn : n = w.heap.size) : (w.alloc (.cells C t (lo, hi))).frozen? ⟨n, j, none⟩ = (decide (lo ≤ j) && decide (j < hi)) := by
  subst hn; exact World.frozen?_alloc_mark w C t lo hi j
@[go_sem] theorem marked_setCell (w : World) (C : Array Value) (t : TypeId) (fr : Nat × Nat) (n i : Nat) (v : Value) (hn : n = w.heap.size) : (w.alloc (.cells C t fr)).setCell ⟨n, i, none⟩ v = w.alloc (.cells (C.setIfInBounds i v) t fr) := by
  subst hn
  have hm : ∀ (a : Array Obj) (x : Obj) (f : Obj → Obj), (a.push x).modify a.size f = a.push (f x) := by
    intro a x f
    apply Array.ext
    · simp
    · intro i h1 h2
      simp only [Array.getElem_modify, Array.getElem_push]
      by_cases h : a.size = i
      · subst h
        simp
      · have hi : i < a.size := by simp at h1; omega
        simp [h, hi]
  unfold World.setCell
  show ({ w.alloc (.cells C t fr) with heap := (w.heap.push (.cells C t fr)).modify w.heap.size _ } : World) = _
  rw [hm]
  rfl

/-- What a contract that only makes memory leaves: all that was there reads as it did. -/
theorem bcell {W w1 : World} (hb : Below W.heap.size W w1) : (∀ b o, b < W.heap.size → w1.cell? ⟨b, o, none⟩ = W.cell? ⟨b, o, none⟩) ∧ (∀ b o, b < W.heap.size → w1.frozen? ⟨b, o, none⟩ = W.frozen? ⟨b, o, none⟩) ∧ W.heap.size ≤ w1.heap.size :=
  ⟨fun b o h => hb.cell (p := ⟨b, o, none⟩) h, fun b o h => hb.frozen (p := ⟨b, o, none⟩) h, hb.size⟩
theorem heap_two (w : World) (o1 o2 : Obj) : ((w.alloc o1).alloc o2).heap[w.heap.size]? = some o1 ∧ ((w.alloc o1).alloc o2).heap[w.heap.size + 1]? = some o2 := by
  constructor
  · show ((w.heap.push o1).push o2)[w.heap.size]? = _
    rw [Array.getElem?_push_lt (by simp)]
    simp
  · show ((w.heap.push o1).push o2)[w.heap.size + 1]? = _
    rw [show w.heap.size + 1 = (w.heap.push o1).size by simp, Array.getElem?_push_size]

theorem blk_miss {w : World} {g g' i : Nat} {v : Value} {o : Obj} (h : w.heap[g]? = some o) (hne : g ≠ g') : (w.setCell ⟨g', i, none⟩ v).heap[g]? = some o := by
  rw [← h]
  simp only [World.setCell, Array.getElem?_modify]
  rw [if_neg (Ne.symm hne)]

/-- The panic chain of one panic with a value of the named type t. -/
def Chain (t : TypeId) (v : Value) : List PanicEntry := [{ v := .iface t v, recovered := false }]

/-- 'x.(T)' with ok, T a struct type, where x holds a T. -/
theorem run_typeAssert_struct {P : Program} (t xT : TypeId) (v : Value) (w : World) {fs : Array Field} (h : P.underlying t = some (.struct fs)) :
    (Instr.typeAssert (.iface t v) xT t true).run P w = .ok (.tuple #[v, .bool true]) w := by
  simp [Instr.typeAssert, run_underlying h]

/- A quiet call behind a quiet region: the walk has joined the draws. -/
theorem quiet_add {P : Program} {f : FuncId} {args : Array Value} {w : World} {a n : Nat} {v : Value}
    (h : Calls P f args (w.drewN (a + n)) fun e w' => e = .returned v ∧ ∃ m, w' = (w.drewN (a + n)).drewN m) :
    Calls P f args (w.drewN (a + n)) fun e w'' => e = .returned v ∧ ∃ m, w'' = w.drewN (a + m) :=
  h.mono fun _ _ ⟨he, m, hm⟩ => ⟨he, n + m, by rw [hm, World.drewN_drewN, Nat.add_assoc]⟩
theorem quiet_add_same {P : Program} {f : FuncId} {args : Array Value} {w : World} {a n : Nat} {v : Value}
    (h : Calls P f args (w.drewN (a + n)) fun e w' => e = .returned v ∧ w' = w.drewN (a + n)) :
    Calls P f args (w.drewN (a + n)) fun e w'' => e = .returned v ∧ ∃ m, w'' = w.drewN (a + m) :=
  h.mono fun _ _ ⟨he, hm⟩ => ⟨he, n, hm⟩
/-- What is never: no tactic looks into it. -/
structure Never : Prop where
  out : False
/- A call that panics, inside a region that is walked in all orders: the panic's goal is closed, and the way that is not there is left, under False. -/
theorem calls_panic_stop {P : Program} {f : FuncId} {args : Array Value} {w wd : World} {v : Value} {c : List PanicEntry} {R : Ending → World → Prop}
    (hc : Calls P f args w fun e w' => e = .panicked c ∧ w' = w) (h1 : R (.panicked c) w) (_h2 : Never → R (.returned v) wd) : Calls P f args w R :=
  hc.mono fun _ _ ⟨he, hw⟩ => by subst he hw; exact h1
end Go.Proofs.YtpmiddhdgidimaaGreatDoor
