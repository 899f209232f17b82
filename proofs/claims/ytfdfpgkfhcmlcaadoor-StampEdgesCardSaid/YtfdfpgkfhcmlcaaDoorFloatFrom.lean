/- stamp.FromFloat and the reference's FromFloat. -/
import Derived.Test.YtfdfpgkfhcmlcaaDoorFloatLib
set_option linter.unusedVariables false
set_option linter.unusedSimpArgs false
namespace Go.Proofs.YtfdfpgkfhcmlcaaDoor
open Go.RowKit Go.Proofs.YtfdfpgkfhcmlcaaDoorW.PrintWords Ieee

/-- A float as a time. -/
def fromFT (b : Nat) : Option (Int × Int) := match double.read b with
  | .number s m p => if A m p ≤ 1099511627776 * SC then some (secF s m p, min (nanoF (qF (rF b (cF s m p)))) 999999999) else none
  | _ => none
theorem ret_from {W : World} {n : Nat} {s v : Int} {b : Bool} {tmps : Array Value} (h0 : W.cell? ⟨n, 0, none⟩ = some (.int .i64 s)) (h1 : W.cell? ⟨n, 1, none⟩ = some (.int .i64 v)) (hp : tmps.getD 2 undef = .pointer (some ⟨n, 0, none⟩)) (hb : tmps.getD 3 undef = .bool b) :
    (results Tryd.f20 tmps).run Tryd.prog W = .ok (.tuple #[.agg #[.int .i64 s, .int .i64 v], .bool b]) W := by
  rw [results_cell_tmp rfl, hp, hb]
  go_simp
theorem fromFloat_any (b : Nat) (hb : b < 18446744073709551616) (w : World) : Calls Tryd.prog 20 #[.float .f64 b] w fun e w' => e = .returned (gotT (fromFT b)) ∧ Below w.heap.size w w' := by
  rcases stands b with ⟨s, t, h⟩ | ⟨s, h⟩ | ⟨s, m, p, h, hm, hp, hq, ht⟩
  · have e : fromFT b = none := by unfold fromFT; rw [h]
    rw [e]
    have h0 := nan_orders h
    go_enter Tryd.func20, Tryd.ntmps20
    go_wp2_with (go_at_call 33; refine (isNaN_any b _).mono ?_; rintro e w1 ⟨rfl, rfl⟩)
    refine bodyPost_ret (ret_from (blk_cell (heap_alloc_new w _) 0) (blk_cell (heap_alloc_new w _) 1) rfl rfl) rfl ?_
    exact ⟨rfl, below_alloc (Below.refl _ _) _⟩
  · have e : fromFT b = none := by unfold fromFT; rw [h]
    rw [e]
    obtain ⟨h0, h1, -, -⟩ := inf_orders h
    go_enter Tryd.func20, Tryd.ntmps20
    go_wp2_with (first
      | (go_at_call 33; refine (isNaN_any b _).mono ?_; rintro e w1 ⟨rfl, rfl⟩)
      | (go_at_call 34; refine (isInf_any b hb _).mono ?_; rintro e w1 ⟨rfl, rfl⟩; rw [h1]))
    refine bodyPost_ret (ret_from (blk_cell (heap_alloc_new w _) 0) (blk_cell (heap_alloc_new w _) 1) rfl rfl) rfl ?_
    exact ⟨rfl, below_alloc (Below.refl _ _) _⟩
  · obtain ⟨h0, h1, h2, -, -⟩ := num_orders h hm hp ht
    by_cases ha : A m p ≤ 1099511627776 * SC
    · have e : fromFT b = some (secF s m p, min (nanoF (qF (rF b (cF s m p)))) 999999999) := by unfold fromFT; rw [h]; simp only; rw [if_pos ha]
      have h2' : (FloatKind.f64.format.order (b % 9223372036854775808) 4787326403894837248 == some .gt) = false := by rw [h2]; simp only [decide_eq_false_iff_not]; omega
      rw [e]
      obtain ⟨k1, k2, k3, k4, k5, k6⟩ := prog_facts h hp ha
      have FL := Aside0.mk (fun W => floor_any b s m p h hp W)
      clear h2 e ha h hm hp ht hq
      generalize nanoF (qF (rF b (cF s m p))) = n at k4 k5 k6 ⊢
      generalize qF (rF b (cF s m p)) = q at k3 k4
      generalize rF b (cF s m p) = r at k2 k3
      generalize cF s m p = c at k1 k2 FL
      generalize secF s m p = sec at k1 ⊢
      have a1 := fun W => run_convert_float_int (P := Tryd.prog) W 41 3 .f64 .i64 c sec (by kernel_rfl) (by kernel_rfl) k1
      have a2 := fun W => run_float_arith (P := Tryd.prog) W .sub 41 .f64 b c r k2
      have a3 := fun W => run_float_arith (P := Tryd.prog) W .mul 41 .f64 r 4741671816366391296 q k3
      have a4 := fun W => run_convert_float_int (P := Tryd.prog) W 41 3 .f64 .i64 q n (by kernel_rfl) (by kernel_rfl) k4
      clear k1 k2 k3 k4
      go_enter Tryd.func20, Tryd.ntmps20
      go_wp2_with (first
        | (go_at_call 33; refine (isNaN_any b _).mono ?_; rintro e w1 ⟨rfl, rfl⟩)
        | (go_at_call 34; refine (isInf_any b hb _).mono ?_; rintro e w1 ⟨rfl, rfl⟩; rw [h1])
        | (go_at_call 35; refine (abs_any b hb _).mono ?_; rintro e w1 ⟨rfl, rfl⟩)
        | (go_at_call 36; refine (FL.out _).mono ?_; rintro e w1 ⟨rfl, rfl⟩))
      refine bodyPost_ret (ret_from (blk_cell (heap_alloc_new w _) 0) (blk_cell (heap_alloc_new w _) 1) rfl rfl) rfl ?_
      exact ⟨rfl, below_alloc (Below.refl _ _) _⟩
    · have e : fromFT b = none := by unfold fromFT; rw [h]; simp only; rw [if_neg ha]
      have h2' : (FloatKind.f64.format.order (b % 9223372036854775808) 4787326403894837248 == some .gt) = true := by rw [h2]; simp only [decide_eq_true_eq]; omega
      rw [e]
      clear h2 e ha h
      go_enter Tryd.func20, Tryd.ntmps20
      go_wp2_with (first
        | (go_at_call 33; refine (isNaN_any b _).mono ?_; rintro e w1 ⟨rfl, rfl⟩)
        | (go_at_call 34; refine (isInf_any b hb _).mono ?_; rintro e w1 ⟨rfl, rfl⟩; rw [h1])
        | (go_at_call 35; refine (abs_any b hb _).mono ?_; rintro e w1 ⟨rfl, rfl⟩))
      refine bodyPost_ret (ret_from (blk_cell (heap_alloc_new w _) 0) (blk_cell (heap_alloc_new w _) 1) rfl rfl) rfl ?_
      exact ⟨rfl, below_alloc (Below.refl _ _) _⟩
/- A result of Time, as a value. -/
def timeV (o : Option (Int × Int)) : Value := match o with
  | some t => .agg #[.int .i64 t.1, .int .i64 t.2, .bool true]
  | none => .agg #[.int .i64 0, .int .i64 0, .bool false]
theorem ret_time {W : World} {n : Nat} {s v : Int} {b : Bool} {k1 k2 k3 : Value} {tmps : Array Value} (h : W.heap[n]? = some (.cells #[k1, k2, k3] 35)) (hp : tmps.getD 2 undef = .pointer (some ⟨n, 0, none⟩)) (hk : #[k1, k2, k3] = #[.int .i64 s, .int .i64 v, .bool b]) :
    (results Tryd.f21 tmps).run Tryd.prog W = .ok (.agg #[.int .i64 s, .int .i64 v, .bool b]) W := by
  rw [hk] at h
  exact results_cell_row rfl _ _ n 35 _ (0, 0) _ hp h Tryd.underlying35 rfl (by kernel_rfl)
theorem fromR_any (b : Nat) (hb : b < 18446744073709551616) (w : World) : Calls Tryd.prog 21 #[.float .f64 b] w fun e w' => e = .returned (timeV (fromFT b)) ∧ Below w.heap.size w w' := by
  rcases stands b with ⟨s, t, h⟩ | ⟨s, h⟩ | ⟨s, m, p, h, hm, hp, hq, ht⟩
  · have e : fromFT b = none := by unfold fromFT; rw [h]
    rw [e]
    have h0 := nan_orders h
    go_enter Tryd.func21, Tryd.ntmps21
    go_wp2_with fail
    refine bodyPost_ret (ret_time (heap_alloc_new w _) rfl rfl) rfl ?_
    exact ⟨rfl, below_alloc (Below.refl _ _) _⟩
  · have e : fromFT b = none := by unfold fromFT; rw [h]
    rw [e]
    obtain ⟨h0, -, h1, h2⟩ := inf_orders h
    cases s with
    | false =>
      go_enter Tryd.func21, Tryd.ntmps21
      go_wp2_with fail
      refine bodyPost_ret (ret_time (heap_alloc_new w _) rfl rfl) rfl ?_
      exact ⟨rfl, below_alloc (Below.refl _ _) _⟩
    | true =>
      go_enter Tryd.func21, Tryd.ntmps21
      go_wp2_with fail
      refine bodyPost_ret (ret_time (heap_alloc_new w _) rfl rfl) rfl ?_
      exact ⟨rfl, below_alloc (Below.refl _ _) _⟩
  · obtain ⟨h0, -, -, h3, h4⟩ := num_orders h hm hp ht
    by_cases ha : A m p ≤ 1099511627776 * SC
    · have e : fromFT b = some (secF s m p, min (nanoF (qF (rF b (cF s m p)))) 999999999) := by unfold fromFT; rw [h]; simp only; rw [if_pos ha]
      have hd : decide (1099511627776 * SC < A m p) = false := by simp only [decide_eq_false_iff_not]; omega
      rw [hd, Bool.and_false] at h3 h4
      rw [e]
      obtain ⟨n0, k1, n1, n2, hcase⟩ := ref_facts h hp ha
      obtain ⟨k2, k3, k4⟩ := ref_rest h hp ha
      obtain ⟨-, -, -, -, k5, k6⟩ := prog_facts h hp ha
      clear e ha h hm hp ht hq hd
      generalize nanoF (qF (rF b (cF s m p))) = n at k4 k5 k6 ⊢
      generalize secF s m p = sec at k2 k3 k4 hcase ⊢
      generalize qF (rF b (floatOfInt .f64 sec)) = q at k3 k4
      generalize rF b (floatOfInt .f64 sec) = r at k2 k3
      have a1 := fun W => run_convert_float_int (P := Tryd.prog) W 41 3 .f64 .i64 b n0 (by kernel_rfl) (by kernel_rfl) k1
      have a2 := fun W => run_float_arith (P := Tryd.prog) W .sub 41 .f64 b (floatOfInt .f64 sec) r k2
      have a3 := fun W => run_float_arith (P := Tryd.prog) W .mul 41 .f64 r 4741671816366391296 q k3
      have a4 := fun W => run_convert_float_int (P := Tryd.prog) W 41 3 .f64 .i64 q n (by kernel_rfl) (by kernel_rfl) k4
      clear k1 k2 k3 k4
      rcases hcase with ⟨hc, rfl⟩ | ⟨hc, rfl⟩
      · have hw : IntKind.i64.wrap (n0 - 1) = n0 - 1 := by rw [IntKind.wrap_i64]; omega
        go_enter Tryd.func21, Tryd.ntmps21
        go_wp2_with fail
        refine bodyPost_ret (ret_time (heap_alloc_new w _) rfl rfl) rfl ?_
        exact ⟨rfl, below_alloc (Below.refl _ _) _⟩
      · go_enter Tryd.func21, Tryd.ntmps21
        go_wp2_with fail
        refine bodyPost_ret (ret_time (heap_alloc_new w _) rfl rfl) rfl ?_
        exact ⟨rfl, below_alloc (Below.refl _ _) _⟩
    · have e : fromFT b = none := by unfold fromFT; rw [h]; simp only; rw [if_neg ha]
      have hd : decide (1099511627776 * SC < A m p) = true := by simp only [decide_eq_true_eq]; omega
      rw [hd, Bool.and_true] at h3 h4
      rw [e]
      clear e ha h hm hp ht hq hd
      cases s with
      | false =>
        go_enter Tryd.func21, Tryd.ntmps21
        go_wp2_with fail
        refine bodyPost_ret (ret_time (heap_alloc_new w _) rfl rfl) rfl ?_
        exact ⟨rfl, below_alloc (Below.refl _ _) _⟩
      | true =>
        go_enter Tryd.func21, Tryd.ntmps21
        go_wp2_with fail
        refine bodyPost_ret (ret_time (heap_alloc_new w _) rfl rfl) rfl ?_
        exact ⟨rfl, below_alloc (Below.refl _ _) _⟩
/- A time as a float. -/
theorem near_never_nan (s : Bool) (m : Nat) (p : Int) : (∃ m' p', double.read (double.nearest s m p) = .number s m' p' ∧ -1074 ≤ p') ∨ double.read (double.nearest s m p) = .infinity s := by
  rcases Nat.eq_zero_or_pos m with e | e
  · subst e; exact .inl ⟨_, _, near_zero s p, by omega⟩
  · obtain ⟨h1, h2, h3, h4, h5⟩ := dbl_facts
    unfold Format.nearest
    rw [if_neg (by omega), h2, h3]
    simp only
    generalize (max (p + (m.log2 : Int) - (double.fractionBits : Int)) double.leastPlace - double.leastPlace).toNat * 4503599627370496 + _ = r
    by_cases h : r < 9218868437227405312
    · left
      rw [Nat.min_eq_left (by omega), read_word _ _ h]
      split
      · exact ⟨_, _, rfl, by omega⟩
      · exact ⟨_, _, rfl, by omega⟩
    · right
      rw [Nat.min_eq_right (by omega)]
      cases s <;> decide
theorem near_self (s : Bool) (m : Nat) (p : Int) : FloatKind.f64.format.order (double.nearest s m p) (double.nearest s m p) = some .eq := by
  rcases near_never_nan s m p with ⟨m', p', h, hp⟩ | h
  · rw [order_vals h h hp hp]; simp
  · exact (inf_orders h).1
theorem float_facts (s n : Int) (hs : s.natAbs < 9007199254740992) (hn : n.natAbs < 9007199254740992) : ∃ q r, floatBits .quo .f64 (floatOfInt .f64 n) billion = some q ∧ floatBits .add .f64 (floatOfInt .f64 s) q = some r ∧ FloatKind.f64.format.order r r = some .eq := by
  obtain ⟨m, p, h, hp, -, -⟩ := read_floatOfInt n hn
  obtain ⟨m2, p2, h2, hp2, -, -⟩ := read_floatOfInt s hs
  have e1 : ∃ q0, (Datum.number (decide (n < 0)) m p).quotient 54 (.number false 8388608000000000 (-23)) = some q0 ∧ ∃ t k j, q0 = .number t k j := ⟨_, rfl, _, _, _, rfl⟩
  obtain ⟨q0, hq0, t, k, j, rfl⟩ := e1
  have hq : floatBits .quo .f64 (floatOfInt .f64 n) billion = some (double.nearest t k j) := by
    show ((double.read (floatOfInt .f64 n)).quotient 54 (double.read billion)).map double.write = _
    rw [h, read_billion, hq0]
    rfl
  rcases near_never_nan t k j with ⟨m', p', h3, hp3⟩ | h3
  · obtain ⟨x, hx, -⟩ := sum_num (decide (s < 0)) t m2 m' p2 p' hp2 hp3
    refine ⟨_, double.nearest (if x = 0 then decide (s < 0) && t else decide (x < 0)) x.natAbs (min p2 p'), hq, ?_, near_self _ _ _⟩
    show ((double.read (floatOfInt .f64 s)).sum (double.read (double.nearest t k j))).map double.write = _
    rw [h2, h3, hx]
    rfl
  · refine ⟨_, double.word t double.infRung, hq, ?_, ?_⟩
    · show ((double.read (floatOfInt .f64 s)).sum (double.read (double.nearest t k j))).map double.write = _
      rw [h2, h3]
      rfl
    · cases t <;> decide
end Go.Proofs.YtfdfpgkfhcmlcaaDoor
