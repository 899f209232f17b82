/- A step over a map keeps the tape. -/
import Derived.Laws.IdiomRangeMap
set_option linter.unusedVariables false
namespace Go.Proofs.YtpmiddhdgidimaaGreatDoor
theorem choose_tape {P : Program} {q : Question} {w w1 : World} {j : Nat} (h : (choose q).run P w = .ok j w1) : w1.tape = w.tape := by
  simp only [choose, Sem.run] at h
  split at h
  · cases h; rfl
  · cases h; rfl
theorem setObj_tape {P : Program} {r : Nat} {o : Obj} {w w1 : World} {u : Unit} (h : (setObj r o).run P w = .ok u w1) : w1.tape = w.tape := by
  simp only [setObj, Sem.run] at h
  split at h
  · cases h
  · cases h; rfl
  · cases h
theorem next_tape {P : Program} {w w' : World} {ty : TypeId} {r bm since c0 : Nat} {seen : Array Nat} {es : Array MapEntry} {clock : Nat} {v : Value} (hi : w.heap[r]? = some (.mapIter (some bm) since seen c0)) (hb : w.heap[bm]? = some (.map es clock))
    (h : (Instr.next (.pointer (some ⟨r, 0, none⟩)) false ty).run P w = .ok v w') : w'.tape = w.tape := by
  have hgi : (getObj r).run P w = .ok (.mapIter (some bm) since seen c0) w := by simp [getObj, Sem.run, hi]
  have hgb : (getObj bm).run P w = .ok (.map es clock) w := by simp [getObj, Sem.run, hb]
  simp only [Instr.next, Sem.run_bind, hgi, hgb, Result.andThen, unsupported, stuck] at h
  split at h
  · cases h
  · split at h
    all_goals
      (try simp only [Sem.run_bind, Result.andThen] at h)
      split at h
      · rename_i j w1 hc
        have h1 := choose_tape hc
        split at h
        · simp only [Sem.run_bind, Result.andThen] at h
          split at h
          · rename_i hs
            have h2 := setObj_tape hs
            cases h
            exact h2.trans h1
          · cases h
        · cases h; exact h1
        · cases h
      · cases h
end Go.Proofs.YtpmiddhdgidimaaGreatDoor
