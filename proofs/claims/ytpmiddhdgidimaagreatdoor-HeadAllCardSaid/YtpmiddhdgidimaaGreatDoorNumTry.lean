/- num.try over num's closures. -/
import Derived.Test.YtpmiddhdgidimaaGreatDoorNumBase
set_option linter.unusedVariables false
set_option linter.unusedSimpArgs false
namespace Go.Proofs.YtpmiddhdgidimaaGreatDoor
open Go.RowKit Go.Proofs.YtpmiddhdgidimaaGreatDoorW.PrintWords

/-- The deferred closure of try[string], where the frame below panics with noField. -/
theorem catchstring (p q : Nat) (x y : Value) (older : List PanicEntry) (w : World)
    (hp : w.cell? ⟨p, 0, none⟩ = some x) (hp' : w.frozen? ⟨p, 0, none⟩ = false) (hq : w.cell? ⟨q, 0, none⟩ = some y) (hq' : w.frozen? ⟨q, 0, none⟩ = false)
    (hpq : ¬ p = q) (hpb : p < w.heap.size) (hqb : q < w.heap.size) :
    CallsD Tryz.prog 88 #[.pointer (some ⟨p, 0, none⟩), .pointer (some ⟨q, 0, none⟩)] (.panicking ({ v := .iface 105 (.agg #[.int .i64 4]), recovered := false } :: older)) w fun e u' w' =>
      e = .returned (.tuple #[]) ∧ u' = .panicking ({ v := .iface 105 (.agg #[.int .i64 4]), recovered := true } :: older) ∧
        w' = ((w.setCell ⟨p, 0, none⟩ (.string ⟨#[]⟩)).setCell ⟨q, 0, none⟩ (.bool false)).alloc (.cells #[.int .i64 4] 105) := by
  have hta := fun (W : World) => run_typeAssert_struct (P := Tryz.prog) 105 20 (.agg #[.int .i64 4]) W Tryz.underlying105
  refine callsD_of_wpS Tryz.func88 rfl fun c₀ cs hu => ?_
  apply wpS_seq
  apply wpS_region
  simp [wpOpsS, go_sem, recoverD, hu, Tryz.ntmps88, Exit.thenS]
  refine wpS_of_wp ?_
  simp only [Array.replicate, List.replicate, List.setIfInBounds_toArray, List.set_cons_zero, List.set_cons_succ, List.append_toArray, List.cons_append, List.nil_append]
  go_wp2
  simp [bodyPostS, results, Tryz.results88]
theorem idlestring (a b : Value) (w : World) :
    CallsD Tryz.prog 88 #[a, b] .returning w fun e u' w' => e = .returned (.tuple #[]) ∧ u' = .returning ∧ w' = w := by
  refine callsD_of_wpS Tryz.func88 rfl fun c₀ cs hu => ?_
  apply wpS_seq
  apply wpS_region
  simp [wpOpsS, go_sem, recoverD, hu, Tryz.ntmps88, Exit.thenS]
  refine wpS_of_wp ?_
  simp only [Array.replicate, List.replicate, List.setIfInBounds_toArray, List.set_cons_zero, List.set_cons_succ, List.append_toArray, List.cons_append, List.nil_append]
  go_wp2
  cases c₀
  simp_all [bodyPostS, results, Tryz.results88]
/-- The deferred closure of try[int], where the frame below panics with noField. -/
theorem catchint (p q : Nat) (x y : Value) (older : List PanicEntry) (w : World)
    (hp : w.cell? ⟨p, 0, none⟩ = some x) (hp' : w.frozen? ⟨p, 0, none⟩ = false) (hq : w.cell? ⟨q, 0, none⟩ = some y) (hq' : w.frozen? ⟨q, 0, none⟩ = false)
    (hpq : ¬ p = q) (hpb : p < w.heap.size) (hqb : q < w.heap.size) :
    CallsD Tryz.prog 100 #[.pointer (some ⟨p, 0, none⟩), .pointer (some ⟨q, 0, none⟩)] (.panicking ({ v := .iface 105 (.agg #[.int .i64 4]), recovered := false } :: older)) w fun e u' w' =>
      e = .returned (.tuple #[]) ∧ u' = .panicking ({ v := .iface 105 (.agg #[.int .i64 4]), recovered := true } :: older) ∧
        w' = ((w.setCell ⟨p, 0, none⟩ (.int .i64 0)).setCell ⟨q, 0, none⟩ (.bool false)).alloc (.cells #[.int .i64 4] 105) := by
  have hta := fun (W : World) => run_typeAssert_struct (P := Tryz.prog) 105 20 (.agg #[.int .i64 4]) W Tryz.underlying105
  refine callsD_of_wpS Tryz.func100 rfl fun c₀ cs hu => ?_
  apply wpS_seq
  apply wpS_region
  simp [wpOpsS, go_sem, recoverD, hu, Tryz.ntmps100, Exit.thenS]
  refine wpS_of_wp ?_
  simp only [Array.replicate, List.replicate, List.setIfInBounds_toArray, List.set_cons_zero, List.set_cons_succ, List.append_toArray, List.cons_append, List.nil_append]
  go_wp2
  simp [bodyPostS, results, Tryz.results100]
theorem idleint (a b : Value) (w : World) :
    CallsD Tryz.prog 100 #[a, b] .returning w fun e u' w' => e = .returned (.tuple #[]) ∧ u' = .returning ∧ w' = w := by
  refine callsD_of_wpS Tryz.func100 rfl fun c₀ cs hu => ?_
  apply wpS_seq
  apply wpS_region
  simp [wpOpsS, go_sem, recoverD, hu, Tryz.ntmps100, Exit.thenS]
  refine wpS_of_wp ?_
  simp only [Array.replicate, List.replicate, List.setIfInBounds_toArray, List.set_cons_zero, List.set_cons_succ, List.append_toArray, List.cons_append, List.nil_append]
  go_wp2
  cases c₀
  simp_all [bodyPostS, results, Tryz.results100]
theorem tryOctal_ok (cap : List Value) (v : ByteArray) (w : World) (h : ∀ W, Below w.heap.size w W → Calls Tryz.prog 65 cap.toArray W fun e w' => e = .returned (.string v) ∧ Below W.heap.size W w') :
    Calls Tryz.prog 64 #[.func (.func 65) #[] cap.toArray] w fun e w' => e = .returned (.tuple #[.string v, .bool true]) ∧ Below w.heap.size w w' := by
  have hmf : ∀ (fn : Fn) (first cap : Array Value) (w : World), (Instr.makeFunc fn first cap).run Tryz.prog w = .ok (.func fn first cap) w := fun _ _ _ _ => rfl
  have H := Aside0.mk h
  clear h
  obtain ⟨h1, h2⟩ := heap_two w (.cells #[.string ⟨#[]⟩] 9) (.cells #[.bool false] 4)
  have HB := Aside0.mk (below_alloc (below_alloc (Below.refl w.heap.size w) (.cells #[.string ⟨#[]⟩] 9)) (.cells #[.bool false] 4))
  go_enter_defers Tryz.func64, Tryz.ntmps64
  go_wp2_with (go_at_call 65; refine (H.out _ HB.out).mono ?_; rintro e w5 ⟨rfl, hb5⟩; have c1 := (hb5.block _ (blk_lt h1)).trans h1; have c2 := (hb5.block _ (blk_lt h2)).trans h2; have k1 : w5.cell? ⟨w.heap.size, 0, none⟩ = some (.string ⟨#[]⟩) := blk_cell c1 0; have k2 : w5.cell? ⟨w.heap.size + 1, 0, none⟩ = some (.bool false) := blk_cell c2 0; have f1 := blk_frozen c1 0; have f2 := blk_frozen c2 0; have l1 := blk_lt c1; have l2 := blk_lt c2; have HBW := Aside0.mk (below_next HB.out hb5))
  refine leaves_cons (f := 88) (args := #[.pointer (some ⟨w.heap.size, 0, none⟩), .pointer (some ⟨w.heap.size + 1, 0, none⟩)]) (by simp) (by simp [go_sem]) ?_
  refine (idlestring _ _ _).mono ?_
  rintro e u' w'' ⟨rfl, rfl, rfl⟩
  simp [Leaves, settle, results, Tryz.results64, go_sem, k1, k2, l1, l2]
  exact below_set (below_set HBW.out (Nat.le_refl _)) (by omega)
theorem tryOctal_bad (cap : List Value) (w : World) (h : ∀ W, Below w.heap.size w W → Calls Tryz.prog 65 cap.toArray W fun e w' => e = .panicked noFieldC ∧ Below W.heap.size W w') :
    Calls Tryz.prog 64 #[.func (.func 65) #[] cap.toArray] w fun e w' => e = .returned (.tuple #[.string ⟨#[]⟩, .bool false]) ∧ Below w.heap.size w w' := by
  have hmf : ∀ (fn : Fn) (first cap : Array Value) (w : World), (Instr.makeFunc fn first cap).run Tryz.prog w = .ok (.func fn first cap) w := fun _ _ _ _ => rfl
  have H := Aside0.mk h
  clear h
  obtain ⟨h1, h2⟩ := heap_two w (.cells #[.string ⟨#[]⟩] 9) (.cells #[.bool false] 4)
  have HB := Aside0.mk (below_alloc (below_alloc (Below.refl w.heap.size w) (.cells #[.string ⟨#[]⟩] 9)) (.cells #[.bool false] 4))
  go_enter_defers Tryz.func64, Tryz.ntmps64
  go_wp2_with (go_at_call 65; refine (H.out _ HB.out).mono ?_; rintro e w5 ⟨rfl, hb5⟩; have c1 := (hb5.block _ (blk_lt h1)).trans h1; have c2 := (hb5.block _ (blk_lt h2)).trans h2; have HBW := Aside0.mk (below_next HB.out hb5))
  have l1 := blk_lt c1
  have l2 := blk_lt c2
  refine leaves_cons (f := 88) (args := #[.pointer (some ⟨w.heap.size, 0, none⟩), .pointer (some ⟨w.heap.size + 1, 0, none⟩)]) (by simp) (by simp [go_sem]) ?_
  refine (catchstring _ _ (.string ⟨#[]⟩) (.bool false) [] _ (blk_cell c1 0) (blk_frozen c1 0) (blk_cell c2 0) (blk_frozen c2 0) (by omega) l1 l2).mono ?_
  rintro e u' w'' ⟨rfl, rfl, rfl⟩
  have k1 : w5.cell? ⟨w.heap.size, 0, none⟩ = some (.string ⟨#[]⟩) := blk_cell c1 0
  have k2 : w5.cell? ⟨w.heap.size + 1, 0, none⟩ = some (.bool false) := blk_cell c2 0
  simp [Leaves, settle, results, Tryz.results64, go_sem, k1, k2, l1, l2]
  exact below_alloc (below_set (below_set HBW.out (Nat.le_refl _)) (by omega)) _
theorem tryBase_ok (cap : List Value) (v : ByteArray) (w : World) (h : ∀ W, Below w.heap.size w W → Calls Tryz.prog 67 cap.toArray W fun e w' => e = .returned (.string v) ∧ Below W.heap.size W w') :
    Calls Tryz.prog 64 #[.func (.func 67) #[] cap.toArray] w fun e w' => e = .returned (.tuple #[.string v, .bool true]) ∧ Below w.heap.size w w' := by
  have hmf : ∀ (fn : Fn) (first cap : Array Value) (w : World), (Instr.makeFunc fn first cap).run Tryz.prog w = .ok (.func fn first cap) w := fun _ _ _ _ => rfl
  have H := Aside0.mk h
  clear h
  obtain ⟨h1, h2⟩ := heap_two w (.cells #[.string ⟨#[]⟩] 9) (.cells #[.bool false] 4)
  have HB := Aside0.mk (below_alloc (below_alloc (Below.refl w.heap.size w) (.cells #[.string ⟨#[]⟩] 9)) (.cells #[.bool false] 4))
  go_enter_defers Tryz.func64, Tryz.ntmps64
  go_wp2_with (go_at_call 67; refine (H.out _ HB.out).mono ?_; rintro e w5 ⟨rfl, hb5⟩; have c1 := (hb5.block _ (blk_lt h1)).trans h1; have c2 := (hb5.block _ (blk_lt h2)).trans h2; have k1 : w5.cell? ⟨w.heap.size, 0, none⟩ = some (.string ⟨#[]⟩) := blk_cell c1 0; have k2 : w5.cell? ⟨w.heap.size + 1, 0, none⟩ = some (.bool false) := blk_cell c2 0; have f1 := blk_frozen c1 0; have f2 := blk_frozen c2 0; have l1 := blk_lt c1; have l2 := blk_lt c2; have HBW := Aside0.mk (below_next HB.out hb5))
  refine leaves_cons (f := 88) (args := #[.pointer (some ⟨w.heap.size, 0, none⟩), .pointer (some ⟨w.heap.size + 1, 0, none⟩)]) (by simp) (by simp [go_sem]) ?_
  refine (idlestring _ _ _).mono ?_
  rintro e u' w'' ⟨rfl, rfl, rfl⟩
  simp [Leaves, settle, results, Tryz.results64, go_sem, k1, k2, l1, l2]
  exact below_set (below_set HBW.out (Nat.le_refl _)) (by omega)
theorem tryBase_bad (cap : List Value) (w : World) (h : ∀ W, Below w.heap.size w W → Calls Tryz.prog 67 cap.toArray W fun e w' => e = .panicked noFieldC ∧ Below W.heap.size W w') :
    Calls Tryz.prog 64 #[.func (.func 67) #[] cap.toArray] w fun e w' => e = .returned (.tuple #[.string ⟨#[]⟩, .bool false]) ∧ Below w.heap.size w w' := by
  have hmf : ∀ (fn : Fn) (first cap : Array Value) (w : World), (Instr.makeFunc fn first cap).run Tryz.prog w = .ok (.func fn first cap) w := fun _ _ _ _ => rfl
  have H := Aside0.mk h
  clear h
  obtain ⟨h1, h2⟩ := heap_two w (.cells #[.string ⟨#[]⟩] 9) (.cells #[.bool false] 4)
  have HB := Aside0.mk (below_alloc (below_alloc (Below.refl w.heap.size w) (.cells #[.string ⟨#[]⟩] 9)) (.cells #[.bool false] 4))
  go_enter_defers Tryz.func64, Tryz.ntmps64
  go_wp2_with (go_at_call 67; refine (H.out _ HB.out).mono ?_; rintro e w5 ⟨rfl, hb5⟩; have c1 := (hb5.block _ (blk_lt h1)).trans h1; have c2 := (hb5.block _ (blk_lt h2)).trans h2; have HBW := Aside0.mk (below_next HB.out hb5))
  have l1 := blk_lt c1
  have l2 := blk_lt c2
  refine leaves_cons (f := 88) (args := #[.pointer (some ⟨w.heap.size, 0, none⟩), .pointer (some ⟨w.heap.size + 1, 0, none⟩)]) (by simp) (by simp [go_sem]) ?_
  refine (catchstring _ _ (.string ⟨#[]⟩) (.bool false) [] _ (blk_cell c1 0) (blk_frozen c1 0) (blk_cell c2 0) (blk_frozen c2 0) (by omega) l1 l2).mono ?_
  rintro e u' w'' ⟨rfl, rfl, rfl⟩
  have k1 : w5.cell? ⟨w.heap.size, 0, none⟩ = some (.string ⟨#[]⟩) := blk_cell c1 0
  have k2 : w5.cell? ⟨w.heap.size + 1, 0, none⟩ = some (.bool false) := blk_cell c2 0
  simp [Leaves, settle, results, Tryz.results64, go_sem, k1, k2, l1, l2]
  exact below_alloc (below_set (below_set HBW.out (Nat.le_refl _)) (by omega)) _
theorem tryReadOctal_ok (cap : List Value) (v : Int) (w : World) (h : ∀ W, Below w.heap.size w W → Calls Tryz.prog 80 cap.toArray W fun e w' => e = .returned (.int .i64 v) ∧ Below W.heap.size W w') :
    Calls Tryz.prog 79 #[.func (.func 80) #[] cap.toArray] w fun e w' => e = .returned (.tuple #[.int .i64 v, .bool true]) ∧ Below w.heap.size w w' := by
  have hmf : ∀ (fn : Fn) (first cap : Array Value) (w : World), (Instr.makeFunc fn first cap).run Tryz.prog w = .ok (.func fn first cap) w := fun _ _ _ _ => rfl
  have H := Aside0.mk h
  clear h
  obtain ⟨h1, h2⟩ := heap_two w (.cells #[.int .i64 0] 3) (.cells #[.bool false] 4)
  have HB := Aside0.mk (below_alloc (below_alloc (Below.refl w.heap.size w) (.cells #[.int .i64 0] 3)) (.cells #[.bool false] 4))
  go_enter_defers Tryz.func79, Tryz.ntmps79
  go_wp2_with (go_at_call 80; refine (H.out _ HB.out).mono ?_; rintro e w5 ⟨rfl, hb5⟩; have c1 := (hb5.block _ (blk_lt h1)).trans h1; have c2 := (hb5.block _ (blk_lt h2)).trans h2; have k1 : w5.cell? ⟨w.heap.size, 0, none⟩ = some (.int .i64 0) := blk_cell c1 0; have k2 : w5.cell? ⟨w.heap.size + 1, 0, none⟩ = some (.bool false) := blk_cell c2 0; have f1 := blk_frozen c1 0; have f2 := blk_frozen c2 0; have l1 := blk_lt c1; have l2 := blk_lt c2; have HBW := Aside0.mk (below_next HB.out hb5))
  refine leaves_cons (f := 100) (args := #[.pointer (some ⟨w.heap.size, 0, none⟩), .pointer (some ⟨w.heap.size + 1, 0, none⟩)]) (by simp) (by simp [go_sem]) ?_
  refine (idleint _ _ _).mono ?_
  rintro e u' w'' ⟨rfl, rfl, rfl⟩
  simp [Leaves, settle, results, Tryz.results79, go_sem, k1, k2, l1, l2]
  exact below_set (below_set HBW.out (Nat.le_refl _)) (by omega)
theorem tryReadOctal_bad (cap : List Value) (w : World) (h : ∀ W, Below w.heap.size w W → Calls Tryz.prog 80 cap.toArray W fun e w' => e = .panicked noFieldC ∧ Below W.heap.size W w') :
    Calls Tryz.prog 79 #[.func (.func 80) #[] cap.toArray] w fun e w' => e = .returned (.tuple #[.int .i64 0, .bool false]) ∧ Below w.heap.size w w' := by
  have hmf : ∀ (fn : Fn) (first cap : Array Value) (w : World), (Instr.makeFunc fn first cap).run Tryz.prog w = .ok (.func fn first cap) w := fun _ _ _ _ => rfl
  have H := Aside0.mk h
  clear h
  obtain ⟨h1, h2⟩ := heap_two w (.cells #[.int .i64 0] 3) (.cells #[.bool false] 4)
  have HB := Aside0.mk (below_alloc (below_alloc (Below.refl w.heap.size w) (.cells #[.int .i64 0] 3)) (.cells #[.bool false] 4))
  go_enter_defers Tryz.func79, Tryz.ntmps79
  go_wp2_with (go_at_call 80; refine (H.out _ HB.out).mono ?_; rintro e w5 ⟨rfl, hb5⟩; have c1 := (hb5.block _ (blk_lt h1)).trans h1; have c2 := (hb5.block _ (blk_lt h2)).trans h2; have HBW := Aside0.mk (below_next HB.out hb5))
  have l1 := blk_lt c1
  have l2 := blk_lt c2
  refine leaves_cons (f := 100) (args := #[.pointer (some ⟨w.heap.size, 0, none⟩), .pointer (some ⟨w.heap.size + 1, 0, none⟩)]) (by simp) (by simp [go_sem]) ?_
  refine (catchint _ _ (.int .i64 0) (.bool false) [] _ (blk_cell c1 0) (blk_frozen c1 0) (blk_cell c2 0) (blk_frozen c2 0) (by omega) l1 l2).mono ?_
  rintro e u' w'' ⟨rfl, rfl, rfl⟩
  have k1 : w5.cell? ⟨w.heap.size, 0, none⟩ = some (.int .i64 0) := blk_cell c1 0
  have k2 : w5.cell? ⟨w.heap.size + 1, 0, none⟩ = some (.bool false) := blk_cell c2 0
  simp [Leaves, settle, results, Tryz.results79, go_sem, k1, k2, l1, l2]
  exact below_alloc (below_set (below_set HBW.out (Nat.le_refl _)) (by omega)) _
theorem tryReadBase_ok (cap : List Value) (v : Int) (w : World) (h : ∀ W, Below w.heap.size w W → Calls Tryz.prog 83 cap.toArray W fun e w' => e = .returned (.int .i64 v) ∧ Below W.heap.size W w') :
    Calls Tryz.prog 79 #[.func (.func 83) #[] cap.toArray] w fun e w' => e = .returned (.tuple #[.int .i64 v, .bool true]) ∧ Below w.heap.size w w' := by
  have hmf : ∀ (fn : Fn) (first cap : Array Value) (w : World), (Instr.makeFunc fn first cap).run Tryz.prog w = .ok (.func fn first cap) w := fun _ _ _ _ => rfl
  have H := Aside0.mk h
  clear h
  obtain ⟨h1, h2⟩ := heap_two w (.cells #[.int .i64 0] 3) (.cells #[.bool false] 4)
  have HB := Aside0.mk (below_alloc (below_alloc (Below.refl w.heap.size w) (.cells #[.int .i64 0] 3)) (.cells #[.bool false] 4))
  go_enter_defers Tryz.func79, Tryz.ntmps79
  go_wp2_with (go_at_call 83; refine (H.out _ HB.out).mono ?_; rintro e w5 ⟨rfl, hb5⟩; have c1 := (hb5.block _ (blk_lt h1)).trans h1; have c2 := (hb5.block _ (blk_lt h2)).trans h2; have k1 : w5.cell? ⟨w.heap.size, 0, none⟩ = some (.int .i64 0) := blk_cell c1 0; have k2 : w5.cell? ⟨w.heap.size + 1, 0, none⟩ = some (.bool false) := blk_cell c2 0; have f1 := blk_frozen c1 0; have f2 := blk_frozen c2 0; have l1 := blk_lt c1; have l2 := blk_lt c2; have HBW := Aside0.mk (below_next HB.out hb5))
  refine leaves_cons (f := 100) (args := #[.pointer (some ⟨w.heap.size, 0, none⟩), .pointer (some ⟨w.heap.size + 1, 0, none⟩)]) (by simp) (by simp [go_sem]) ?_
  refine (idleint _ _ _).mono ?_
  rintro e u' w'' ⟨rfl, rfl, rfl⟩
  simp [Leaves, settle, results, Tryz.results79, go_sem, k1, k2, l1, l2]
  exact below_set (below_set HBW.out (Nat.le_refl _)) (by omega)
theorem tryReadBase_bad (cap : List Value) (w : World) (h : ∀ W, Below w.heap.size w W → Calls Tryz.prog 83 cap.toArray W fun e w' => e = .panicked noFieldC ∧ Below W.heap.size W w') :
    Calls Tryz.prog 79 #[.func (.func 83) #[] cap.toArray] w fun e w' => e = .returned (.tuple #[.int .i64 0, .bool false]) ∧ Below w.heap.size w w' := by
  have hmf : ∀ (fn : Fn) (first cap : Array Value) (w : World), (Instr.makeFunc fn first cap).run Tryz.prog w = .ok (.func fn first cap) w := fun _ _ _ _ => rfl
  have H := Aside0.mk h
  clear h
  obtain ⟨h1, h2⟩ := heap_two w (.cells #[.int .i64 0] 3) (.cells #[.bool false] 4)
  have HB := Aside0.mk (below_alloc (below_alloc (Below.refl w.heap.size w) (.cells #[.int .i64 0] 3)) (.cells #[.bool false] 4))
  go_enter_defers Tryz.func79, Tryz.ntmps79
  go_wp2_with (go_at_call 83; refine (H.out _ HB.out).mono ?_; rintro e w5 ⟨rfl, hb5⟩; have c1 := (hb5.block _ (blk_lt h1)).trans h1; have c2 := (hb5.block _ (blk_lt h2)).trans h2; have HBW := Aside0.mk (below_next HB.out hb5))
  have l1 := blk_lt c1
  have l2 := blk_lt c2
  refine leaves_cons (f := 100) (args := #[.pointer (some ⟨w.heap.size, 0, none⟩), .pointer (some ⟨w.heap.size + 1, 0, none⟩)]) (by simp) (by simp [go_sem]) ?_
  refine (catchint _ _ (.int .i64 0) (.bool false) [] _ (blk_cell c1 0) (blk_frozen c1 0) (blk_cell c2 0) (blk_frozen c2 0) (by omega) l1 l2).mono ?_
  rintro e u' w'' ⟨rfl, rfl, rfl⟩
  have k1 : w5.cell? ⟨w.heap.size, 0, none⟩ = some (.int .i64 0) := blk_cell c1 0
  have k2 : w5.cell? ⟨w.heap.size + 1, 0, none⟩ = some (.bool false) := blk_cell c2 0
  simp [Leaves, settle, results, Tryz.results79, go_sem, k1, k2, l1, l2]
  exact below_alloc (below_set (below_set HBW.out (Nat.le_refl _)) (by omega)) _
end Go.Proofs.YtpmiddhdgidimaaGreatDoor
