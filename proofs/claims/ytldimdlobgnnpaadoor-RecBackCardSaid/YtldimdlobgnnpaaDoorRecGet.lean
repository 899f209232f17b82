/- rec.Get, rec.All: the record at a place, all records. -/
import Derived.Test.YtldimdlobgnnpaaDoorRecRead
set_option linter.unusedVariables false
set_option linter.unusedSimpArgs false
namespace Go.Proofs.YtldimdlobgnnpaaDoor
open Go.RowKit Go.Proofs.YtldimdlobgnnpaaDoorW.PrintWords

theorem trim_dig (ds : List UInt8) : Lib.trimS ds digL = [] ↔ ∀ x ∈ ds, 48 ≤ x.toNat ∧ x.toNat ≤ 57 := by
  rw [trimS_nil]
  exact ⟨fun h x hx => (digits_set x).1 (h x hx), fun h x hx => (digits_set x).2 (h x hx)⟩
theorem suffix_ten {v : List UInt8} (h : Lib.hasSuffix v [10] = true) : ∃ u, v = u ++ [10] := by
  unfold Lib.hasSuffix at h
  rw [List.isSuffixOf_iff_suffix] at h
  obtain ⟨u, hu⟩ := h
  exact ⟨u, hu.symm⟩
theorem read_some (s k v : List UInt8) (n : Nat) (at_ : Int) (h : readL s = some (k, v, n)) (w : World) (hG : Good w) (hs : s.length ≤ 1000000) :
    Calls Tryd.prog 24 #[.string (mkS s), .int .i64 at_] w fun e w' => e = .returned (.tuple #[.agg #[.string (mkS k), .string (mkS v)], .int .i64 n]) ∧ Below w.heap.size w w' := by
  obtain ⟨ds, rs, b1, h1⟩ : ∃ a b c, cutAt 32 (s.take 8) = (a, b, c) := ⟨_, _, _, rfl⟩
  unfold readL at h
  rw [h1] at h
  simp only at h
  split at h
  · rename_i c1
    obtain ⟨rfl, c2, c3⟩ := c1
    split at h
    · rename_i m h3
      split at h
      · rename_i c4
        obtain ⟨kk, vv, b2, h6⟩ : ∃ a b c, cutAt 61 ((s.take m.toNat).drop (ds.length + 1)) = (a, b, c) := ⟨_, _, _, rfl⟩
        rw [h6] at h
        simp only at h
        split at h
        · rename_i c5
          obtain ⟨rfl, c6⟩ := c5
          obtain ⟨u, rfl⟩ := suffix_ten c6
          rw [List.dropLast_concat] at h
          split at h
          · rename_i c7
            simp only [Option.some.injEq, Prod.mk.injEq] at h
            obtain ⟨rfl, rfl, rfl⟩ := h
            have := read_j s ds rs kk u at_ m w hG hs h1 c2 ((trim_dig ds).2 c3) h3 c4.1 c4.2 h6 c7
            rw [Int.toNat_of_nonneg (by omega)]
            exact this
          · cases h
        · cases h
      · cases h
    · cases h
  · cases h
theorem read_none (s : List UInt8) (at_ : Int) (h : readL s = none) (w : World) (hG : Good w) (hs : s.length ≤ 1000000) :
    Calls Tryd.prog 24 #[.string (mkS s), .int .i64 at_] w fun e w' => e = .panicked (Chain 53 (.agg #[.int .i64 at_])) ∧ Below w.heap.size w w' := by
  obtain ⟨ds, rs, b1, h1⟩ : ∃ a b c, cutAt 32 (s.take 8) = (a, b, c) := ⟨_, _, _, rfl⟩
  unfold readL at h
  rw [h1] at h
  simp only at h
  cases b1 with
  | false => exact read_a s ds rs at_ w hG hs h1
  | true =>
    by_cases c2 : ds = []
    · subst c2; exact read_b s rs at_ w hG hs h1
    · by_cases c3 : Lib.trimS ds digL = []
      · rw [if_pos ⟨rfl, c2, (trim_dig ds).1 c3⟩] at h
        split at h
        · rename_i m h3
          by_cases c4 : (ds.length : Int) < m
          · by_cases c5 : m ≤ (s.length : Int)
            · rw [if_pos ⟨c4, c5⟩] at h
              obtain ⟨kk, vv, b2, h6⟩ : ∃ a b c, cutAt 61 ((s.take m.toNat).drop (ds.length + 1)) = (a, b, c) := ⟨_, _, _, rfl⟩
              rw [h6] at h
              simp only at h
              cases b2 with
              | false => exact read_g s ds rs kk vv at_ m w hG hs h1 c2 c3 h3 c4 c5 h6
              | true =>
                cases c6 : Lib.hasSuffix vv [10] with
                | false => exact read_h s ds rs kk vv at_ m w hG hs h1 c2 c3 h3 c4 c5 h6 c6
                | true =>
                  rw [if_pos ⟨rfl, c6⟩] at h
                  obtain ⟨u, rfl⟩ := suffix_ten c6
                  rw [List.dropLast_concat] at h
                  split at h
                  · cases h
                  · rename_i c7
                    exact read_i s ds rs kk u at_ m w hG hs h1 c2 c3 h3 c4 c5 h6 c7
            · exact read_f s ds rs at_ m w hG hs h1 c2 c3 h3 c4 (by omega)
          · exact read_e s ds rs at_ m w hG hs h1 c2 c3 h3 (by omega)
        · rename_i x hx
          exact read_d s ds rs at_ w hG hs h1 c2 c3 (fun v hv => hx v hv)
      · exact read_c s ds rs _ at_ w hG hs h1 c2 rfl c3

/-- The deferred closure of Get, where the frame below panics with noRecord: the results are laid. -/
theorem get_catch (p q r : Nat) (x0 x1 y z : Value) (n : Int) (older : List PanicEntry) (w : World)
    (hp0 : w.cell? ⟨p, 0, none⟩ = some x0) (hp0' : w.frozen? ⟨p, 0, none⟩ = false) (hp1 : w.cell? ⟨p, 1, none⟩ = some x1) (hp1' : w.frozen? ⟨p, 1, none⟩ = false) (hq : w.cell? ⟨q, 0, none⟩ = some y) (hq' : w.frozen? ⟨q, 0, none⟩ = false) (hr : w.cell? ⟨r, 0, none⟩ = some z) (hr' : w.frozen? ⟨r, 0, none⟩ = false)
    (hpq : ¬ p = q) (hpr : ¬ p = r) (hqr : ¬ q = r) (hpb : p < w.heap.size) (hqb : q < w.heap.size) (hrb : r < w.heap.size) :
    CallsD Tryd.prog 23 #[.pointer (some ⟨p, 0, none⟩), .pointer (some ⟨q, 0, none⟩), .pointer (some ⟨r, 0, none⟩)] (.panicking ({ v := .iface 53 (.agg #[.int .i64 n]), recovered := false } :: older)) w fun e u' w' =>
      e = .returned (.tuple #[]) ∧ u' = .panicking ({ v := .iface 53 (.agg #[.int .i64 n]), recovered := true } :: older) ∧
        w' = ((((w.setCell ⟨p, 0, none⟩ (.string ⟨#[]⟩)).setCell ⟨p, 1, none⟩ (.string ⟨#[]⟩)).setCell ⟨q, 0, none⟩ (.int .i64 0)).setCell ⟨r, 0, none⟩ (.int .i64 4)).alloc (.cells #[.int .i64 n] 53) := by
  have hta := fun (W : World) => run_typeAssert_struct (P := Tryd.prog) 53 20 (.agg #[.int .i64 n]) W Tryd.underlying53
  refine callsD_of_wpS Tryd.func23 rfl fun c₀ cs hu => ?_
  apply wpS_seq
  apply wpS_region
  simp [wpOpsS, go_sem, recoverD, hu, Tryd.ntmps23, Exit.thenS]
  refine wpS_of_wp ?_
  simp only [Array.replicate, List.replicate, List.setIfInBounds_toArray, List.set_cons_zero, List.set_cons_succ, List.append_toArray, List.cons_append, List.nil_append]
  go_wp2
  simp [bodyPostS, results, Tryd.results23]

/-- The deferred closure of Get, where the frame below returns: nothing. -/
theorem get_idle (a b c : Value) (w : World) :
    CallsD Tryd.prog 23 #[a, b, c] .returning w fun e u' w' => e = .returned (.tuple #[]) ∧ u' = .returning ∧ w' = w := by
  refine callsD_of_wpS Tryd.func23 rfl fun c₀ cs hu => ?_
  apply wpS_seq
  apply wpS_region
  simp [wpOpsS, go_sem, recoverD, hu, Tryd.ntmps23, Exit.thenS]
  refine wpS_of_wp ?_
  simp only [Array.replicate, List.replicate, List.setIfInBounds_toArray, List.set_cons_zero, List.set_cons_succ, List.append_toArray, List.cons_append, List.nil_append]
  go_wp2
  cases c₀
  simp_all [bodyPostS, results, Tryd.results23]
/-- What Get answers: a record and the place behind it, or an error. -/
def gotV (k v : List UInt8) (n e : Int) : Value := .tuple #[.agg #[.string (mkS k), .string (mkS v)], .int .i64 n, .int .i64 e]
theorem get_arg (s : List UInt8) (at_ : Int) (w : World) (h : at_ < 0 ∨ (0 ≤ at_ ∧ (s.length : Int) < at_)) :
    Calls Tryd.prog 10 #[.string (mkS s), .int .i64 at_] w fun e w' => e = .returned (gotV [] [] 0 1) ∧ Below w.heap.size w w' := by
  rcases h with h | ⟨h0, h⟩
  all_goals
    go_enter_defers Tryd.func10, Tryd.ntmps10
    go_wp2
  all_goals
    simp [bodyPostD, Leaves, settle, results, Tryd.results10, go_sem]
    exact ⟨rfl, by go_grown⟩
theorem get_end (s : List UInt8) (w : World) (hs : s.length ≤ 1000000) :
    Calls Tryd.prog 10 #[.string (mkS s), .int .i64 (s.length : Int)] w fun e w' => e = .returned (gotV [] [] 0 5) ∧ Below w.heap.size w w' := by
  go_enter_defers Tryd.func10, Tryd.ntmps10
  go_wp2
  simp [bodyPostD, Leaves, settle, results, Tryd.results10, go_sem]
  exact ⟨rfl, by go_grown⟩
/-- The three cells of the results of Get, as they lie. -/
theorem heap_three (w : World) (o1 o2 o3 : Obj) : (((w.alloc o1).alloc o2).alloc o3).heap[w.heap.size]? = some o1 ∧ (((w.alloc o1).alloc o2).alloc o3).heap[w.heap.size + 1]? = some o2 ∧ (((w.alloc o1).alloc o2).alloc o3).heap[w.heap.size + 1 + 1]? = some o3 := by
  obtain ⟨h1, h2⟩ := heap_two w o1 o2
  refine ⟨blk_alloc h1 _, blk_alloc h2 _, ?_⟩
  have := heap_alloc_new ((w.alloc o1).alloc o2) o3
  simpa using this
set_option maxHeartbeats 1000000 in
set_option maxRecDepth 100000 in
theorem get_bad (s : List UInt8) (j : Nat) (w : World) (hG : Good w) (hj : j < s.length) (hs : s.length ≤ 1000000) (h : readL (s.drop j) = none) :
    Calls Tryd.prog 10 #[.string (mkS s), .int .i64 (j : Int)] w fun e w' => e = .returned (gotV [] [] 0 4) ∧ Below w.heap.size w w' := by
  have hmf : ∀ (fn : Fn) (first cap : Array Value) (w : World), (Instr.makeFunc fn first cap).run Tryd.prog w = .ok (.func fn first cap) w := fun _ _ _ _ => rfl
  have hsl := slice_from s (j : Int) (by omega) (by omega)
  rw [Int.toNat_natCast] at hsl
  have hne : ((j : Int) == (s.length : Int)) = false := beq_eq_false_iff_ne.2 (by omega)
  have hjj : (j : Int) < (s.length : Int) := by omega
  have H := Aside0.mk h
  obtain ⟨h1, h2, h3⟩ := heap_three w (.cells #[.string ⟨#[]⟩, .string ⟨#[]⟩] 25) (.cells #[.int .i64 0] 3) (.cells #[.int .i64 0] 28)
  have HBW := Aside0.mk (below_alloc (below_alloc (below_alloc (Below.refl w.heap.size w) (.cells #[.string ⟨#[]⟩, .string ⟨#[]⟩] 25)) (.cells #[.int .i64 0] 3)) (.cells #[.int .i64 0] 28))
  have HG := Aside0.mk (hG.below HBW.out)
  have K1 := Aside0.mk h1
  have K2 := Aside0.mk h2
  have K3 := Aside0.mk h3
  clear h hG h1 h2 h3
  go_enter_defers Tryd.func10, Tryd.ntmps10
  go_wp2_with (go_at_call 24; refine (read_none _ _ H.out _ HG.out (by rw [List.length_drop]; omega)).mono ?_; rintro e w1 ⟨rfl, hb1⟩)
  have c1 := (hb1.block _ (blk_lt K1.out)).trans K1.out
  have c2 := (hb1.block _ (blk_lt K2.out)).trans K2.out
  have c3 := (hb1.block _ (blk_lt K3.out)).trans K3.out
  have l1 := blk_lt c1
  have l2 := blk_lt c2
  have l3 := blk_lt c3
  have HB1 := Aside0.mk (below_next HBW.out hb1)
  refine leaves_cons (f := 23) (args := #[.pointer (some ⟨w.heap.size, 0, none⟩), .pointer (some ⟨w.heap.size + 1, 0, none⟩), .pointer (some ⟨w.heap.size + 1 + 1, 0, none⟩)]) (by simp) (by simp [go_sem]) ?_
  refine (get_catch _ _ _ (.string ⟨#[]⟩) (.string ⟨#[]⟩) (.int .i64 0) (.int .i64 0) _ [] _ (blk_cell c1 0) (blk_frozen c1 0) (blk_cell c1 1) (blk_frozen c1 1) (blk_cell c2 0) (blk_frozen c2 0) (blk_cell c3 0) (blk_frozen c3 0) (by omega) (by omega) (by omega) l1 l2 l3).mono ?_
  rintro e u' w'' ⟨rfl, rfl, rfl⟩
  have d0 : w1.cell? ⟨w.heap.size, 0, none⟩ = some (.string ⟨#[]⟩) := blk_cell c1 0
  have d1 : w1.cell? ⟨w.heap.size, 1, none⟩ = some (.string ⟨#[]⟩) := blk_cell c1 1
  have d2 : w1.cell? ⟨w.heap.size + 1, 0, none⟩ = some (.int .i64 0) := blk_cell c2 0
  have d3 : w1.cell? ⟨w.heap.size + 1 + 1, 0, none⟩ = some (.int .i64 0) := blk_cell c3 0
  simp [Leaves, settle, results, Tryd.results10, go_sem, d0, d1, d2, d3, l1, l2, l3]
  exact ⟨rfl, below_alloc (below_set (below_set (below_set (below_set HB1.out (Nat.le_refl _)) (Nat.le_refl _)) (by omega)) (by omega)) _⟩
set_option maxHeartbeats 1000000 in
set_option maxRecDepth 100000 in
theorem get_ok (s k v : List UInt8) (j n : Nat) (w : World) (hG : Good w) (hj : j < s.length) (hs : s.length ≤ 1000000) (h : readL (s.drop j) = some (k, v, n)) :
    Calls Tryd.prog 10 #[.string (mkS s), .int .i64 (j : Int)] w fun e w' => e = .returned (gotV k v ((j + n : Nat) : Int) 0) ∧ Below w.heap.size w w' := by
  have hmf : ∀ (fn : Fn) (first cap : Array Value) (w : World), (Instr.makeFunc fn first cap).run Tryd.prog w = .ok (.func fn first cap) w := fun _ _ _ _ => rfl
  have hsl := slice_from s (j : Int) (by omega) (by omega)
  rw [Int.toNat_natCast] at hsl
  have hne : ((j : Int) == (s.length : Int)) = false := beq_eq_false_iff_ne.2 (by omega)
  have hjj : (j : Int) < (s.length : Int) := by omega
  have hn := read_pos h
  rw [List.length_drop] at hn
  have hn2 : (n : Int) ≤ 1000000 := by omega
  have hnj : (j : Int) + (n : Int) ≤ 1000000 := by omega
  have H := Aside0.mk h
  obtain ⟨h1, h2, h3⟩ := heap_three w (.cells #[.string ⟨#[]⟩, .string ⟨#[]⟩] 25) (.cells #[.int .i64 0] 3) (.cells #[.int .i64 0] 28)
  have HBW := Aside0.mk (below_alloc (below_alloc (below_alloc (Below.refl w.heap.size w) (.cells #[.string ⟨#[]⟩, .string ⟨#[]⟩] 25)) (.cells #[.int .i64 0] 3)) (.cells #[.int .i64 0] 28))
  have HG := Aside0.mk (hG.below HBW.out)
  have K1 := Aside0.mk h1
  have K2 := Aside0.mk h2
  have K3 := Aside0.mk h3
  clear h hG h1 h2 h3
  go_enter_defers Tryd.func10, Tryd.ntmps10
  go_wp2_with (go_at_call 24; refine (read_some _ k v n _ H.out _ HG.out (by rw [List.length_drop]; omega)).mono ?_; rintro e w1 ⟨rfl, hb1⟩; have c1 := (hb1.block _ (blk_lt K1.out)).trans K1.out; have c2 := (hb1.block _ (blk_lt K2.out)).trans K2.out; have c3 := (hb1.block _ (blk_lt K3.out)).trans K3.out; have l1 := blk_lt c1; have l2 := blk_lt c2; have l3 := blk_lt c3; have HB1 := Aside0.mk (below_next HBW.out hb1); have d0 : w1.cell? ⟨w.heap.size, 0, none⟩ = some (.string ⟨#[]⟩) := blk_cell c1 0; have d1 : w1.cell? ⟨w.heap.size, 1, none⟩ = some (.string ⟨#[]⟩) := blk_cell c1 1; have d2 : w1.cell? ⟨w.heap.size + 1, 0, none⟩ = some (.int .i64 0) := blk_cell c2 0; have d3 : w1.cell? ⟨w.heap.size + 1 + 1, 0, none⟩ = some (.int .i64 0) := blk_cell c3 0; have f0 := blk_frozen c1 0; have f1 := blk_frozen c1 1; have f2 := blk_frozen c2 0; have f3 := blk_frozen c3 0)
  have b1 := blk_miss (i := 0) (v := .int .i64 0) (blk_miss (i := 0) (v := .int .i64 ((j : Int) + (n : Int))) (blk_set (blk_set (blk_set (blk_set c1 0 (.string (mkS k))) 1 (.string (mkS v))) 0 (.string (mkS k))) 1 (.string (mkS v))) (show w.heap.size ≠ w.heap.size + 1 by omega)) (show w.heap.size ≠ w.heap.size + 1 + 1 by omega)
  have b2 := blk_miss (i := 0) (v := .int .i64 0) (blk_set (blk_miss (i := 1) (v := .string (mkS v)) (blk_miss (i := 0) (v := .string (mkS k)) (blk_miss (i := 1) (v := .string (mkS v)) (blk_miss (i := 0) (v := .string (mkS k)) c2 (show w.heap.size + 1 ≠ w.heap.size by omega)) (show w.heap.size + 1 ≠ w.heap.size by omega)) (show w.heap.size + 1 ≠ w.heap.size by omega)) (show w.heap.size + 1 ≠ w.heap.size by omega)) 0 (.int .i64 ((j : Int) + (n : Int)))) (show w.heap.size + 1 ≠ w.heap.size + 1 + 1 by omega)
  have b3 := blk_set (blk_miss (i := 0) (v := .int .i64 ((j : Int) + (n : Int))) (blk_miss (i := 1) (v := .string (mkS v)) (blk_miss (i := 0) (v := .string (mkS k)) (blk_miss (i := 1) (v := .string (mkS v)) (blk_miss (i := 0) (v := .string (mkS k)) c3 (show w.heap.size + 1 + 1 ≠ w.heap.size by omega)) (show w.heap.size + 1 + 1 ≠ w.heap.size by omega)) (show w.heap.size + 1 + 1 ≠ w.heap.size by omega)) (show w.heap.size + 1 + 1 ≠ w.heap.size by omega)) (show w.heap.size + 1 + 1 ≠ w.heap.size + 1 by omega)) 0 (.int .i64 0)
  have hbF := below_set (v := .int .i64 0) (j := 0) (g := w.heap.size + 1 + 1) (below_set (v := .int .i64 ((j : Int) + (n : Int))) (j := 0) (g := w.heap.size + 1) (below_set (v := .string (mkS v)) (j := 1) (g := w.heap.size) (below_set (v := .string (mkS k)) (j := 0) (g := w.heap.size) (below_set (v := .string (mkS v)) (j := 1) (g := w.heap.size) (below_set (v := .string (mkS k)) (j := 0) (g := w.heap.size) HB1.out (Nat.le_refl _)) (Nat.le_refl _)) (Nat.le_refl _)) (Nat.le_refl _)) (by omega)) (by omega)
  generalize ((((((w1.setCell ⟨w.heap.size, 0, none⟩ (.string (mkS k))).setCell ⟨w.heap.size, 1, none⟩ (.string (mkS v))).setCell ⟨w.heap.size, 0, none⟩ (.string (mkS k))).setCell ⟨w.heap.size, 1, none⟩ (.string (mkS v))).setCell ⟨w.heap.size + 1, 0, none⟩ (.int .i64 ((j : Int) + (n : Int)))).setCell ⟨w.heap.size + 1 + 1, 0, none⟩ (.int .i64 0)) = W2 at b1 b2 b3 hbF ⊢
  refine leaves_cons (f := 23) (args := #[.pointer (some ⟨w.heap.size, 0, none⟩), .pointer (some ⟨w.heap.size + 1, 0, none⟩), .pointer (some ⟨w.heap.size + 1 + 1, 0, none⟩)]) (by simp) (by simp [go_sem]) ?_
  refine (get_idle _ _ _ _).mono ?_
  rintro e u' w'' ⟨rfl, rfl, rfl⟩
  have d0 : w''.cell? ⟨w.heap.size, 0, none⟩ = some (.string (mkS k)) := blk_cell b1 0
  have d1 : w''.cell? ⟨w.heap.size, 1, none⟩ = some (.string (mkS v)) := blk_cell b1 1
  have d2 : w''.cell? ⟨w.heap.size + 1, 0, none⟩ = some (.int .i64 ((j : Int) + (n : Int))) := blk_cell b2 0
  have d3 : w''.cell? ⟨w.heap.size + 1 + 1, 0, none⟩ = some (.int .i64 0) := blk_cell b3 0
  simp [Leaves, settle, results, Tryd.results10, go_sem, d0, d1, d2, d3]
  exact ⟨by unfold gotV; simp, hbF⟩
end Go.Proofs.YtldimdlobgnnpaaDoor
