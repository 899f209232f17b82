/- StampEdges: the walk. -/
import Derived.Test.YtfdfpgkfhcmlcaaDoorFloatNear
import Derived.Test.YtfdfpgkfhcmlcaaDoorStampFloats
import Derived.Test.YtfdfpgkfhcmlcaaDoorStampNear
set_option linter.unusedVariables false
set_option linter.unusedSimpArgs false
namespace Go.Proofs.YtfdfpgkfhcmlcaaDoor
open Go.RowKit Go.Proofs.YtfdfpgkfhcmlcaaDoorW.PrintWords Ieee
attribute [local go_sem high] eqAT

/- NaN, as the model chooses it. -/
def nanOf (w : World) (x y : Nat) : Nat := (Question.nanBits .f64 x y).cut (w.tape w.drawn (.nanBits .f64 x y))
theorem run_nan {P : Program} (op : BinOp) (t : TypeId) (x y : Nat) (h : floatBits op .f64 x y = none) (ho : op = .quo) (w : World) : (binOp op t (.float .f64 x) (.float .f64 y)).run P w = .ok (.float .f64 (nanOf w x y)) w.drew := by
  subst ho
  have h2 : FloatKind.f64.format.div x y = none := h
  simp [binOp, Op.floatArith, h2, nanOf, Question.forced]
theorem read_nan (w : World) (x y : Nat) : (∃ s t, double.read (nanOf w x y) = .nan s t) ∧ nanOf w x y < 18446744073709551616 := by
  unfold nanOf
  generalize w.tape w.drawn (.nanBits .f64 x y) = t
  obtain ⟨h1, h2, h3, h4, h5⟩ := dbl_facts
  have e : (Question.nanBits .f64 x y).cut t = (t % 2) * 9223372036854775808 + (9218868437227405312 + 1 + (t / 2) % 4503599627370495) := by
    show (t % 2) * 2 ^ 63 + 0x7ff0000000000000 + 1 + (t / 2) % (2 ^ 52 - 1) = _
    have e1 : (2 : Nat) ^ 63 = 9223372036854775808 := by decide
    have e2 : (2 : Nat) ^ 52 - 1 = 4503599627370495 := by decide
    rw [e1, e2]
    omega
  rw [e]
  have hlt : (t / 2) % 4503599627370495 < 4503599627370495 := Nat.mod_lt _ (by decide)
  have h2t : t % 2 < 2 := Nat.mod_lt _ (by decide)
  generalize (t / 2) % 4503599627370495 = u at *
  generalize t % 2 = v at *
  refine ⟨?_, by omega⟩
  unfold Format.read
  simp only [h1, h2, h3, h4]
  rw [show (v * 9223372036854775808 + (9218868437227405312 + 1 + u)) % 9223372036854775808 = 9218868437227405312 + 1 + u by omega, if_neg (by omega), if_neg (by omega), if_neg (by omega)]
  exact ⟨_, _, rfl⟩
theorem from_nan (b : Nat) (h : ∃ s t, double.read b = .nan s t) : fromFT b = none := by
  obtain ⟨s, t, h⟩ := h
  unfold fromFT; rw [h]
@[go_sem] theorem run_neg_float {P : Program} (b : Nat) (w : World) : (Op.unary .neg (.float .f64 b)).run P w = .ok (.float .f64 (Op.negFloat .f64 b)) w := rfl
/- Powers of two, by doubling. -/
def Pow (b e : Nat) : Prop := (e ≤ 1023 ∧ double.read b = .number false 4503599627370496 ((e : Int) - 52)) ∨ (1023 < e ∧ double.read b = .infinity false)
theorem pow_one : Pow 4607182418800017408 0 := .inl ⟨by decide, by decide⟩
theorem pow_mul (K : Nat) (hK : K = 2 ^ 52) (e : Nat) (he : e < 1023) : double.read (double.nearest false (K * K) ((e : Int) - 52 + -51)) = .number false K (((e + 1 : Nat) : Int) - 52) := by
  have h := exact false 1 104 ((e : Int) + 1) (by decide) (by decide) (by omega) (by rw [show Nat.log2 1 = 0 by decide]; omega)
  rw [show Nat.log2 1 = 0 by decide] at h
  have e1 : K * K = 1 * 2 ^ 104 := by rw [hK, ← Nat.pow_add]
  have e2 : (e : Int) - 52 + -51 = (e : Int) + 1 - ((104 : Nat) : Int) := by omega
  rw [e1, e2, h]
  congr 1
  rw [hK, Nat.one_mul]
theorem two_read : double.read 4611686018427387904 = .number false 4503599627370496 (-51) := by decide
theorem pow_step_of (K : Nat) (hK : K = 2 ^ 52) (h2 : double.read 4611686018427387904 = .number false K (-51)) (b e : Nat) (h : (e ≤ 1023 ∧ double.read b = .number false K ((e : Int) - 52)) ∨ (1023 < e ∧ double.read b = .infinity false)) :
    ∃ r, floatBits .mul .f64 b 4611686018427387904 = some r ∧ ((e + 1 ≤ 1023 ∧ double.read r = .number false K (((e + 1 : Nat) : Int) - 52)) ∨ (1023 < e + 1 ∧ double.read r = .infinity false)) := by
  rcases h with ⟨he, h⟩ | ⟨he, h⟩
  · have hm : floatBits .mul .f64 b 4611686018427387904 = some (double.nearest false (K * K) ((e : Int) - 52 + -51)) := by
      show ((double.read b).product (double.read 4611686018427387904)).map double.write = _
      rw [h, h2]
      rfl
    refine ⟨_, hm, ?_⟩
    by_cases h3 : e = 1023
    · right
      refine ⟨by omega, ?_⟩
      rw [h3, hK]
      decide
    · left
      exact ⟨by omega, pow_mul K hK e (by omega)⟩
  · have hm : floatBits .mul .f64 b 4611686018427387904 = some (double.word false double.infRung) := by
      show ((double.read b).product (double.read 4611686018427387904)).map double.write = _
      rw [h, h2]
      show (if K = 0 then none else some (Datum.infinity (false ^^ false))).map double.write = _
      rw [if_neg (by rw [hK]; decide)]
      rfl
    exact ⟨_, hm, .inr ⟨by omega, by decide⟩⟩
theorem pow_step {b e : Nat} (h : Pow b e) : ∃ r, floatBits .mul .f64 b 4611686018427387904 = some r ∧ Pow r (e + 1) := pow_step_of _ (by decide) two_read b e h
/-- Too far: none, with either sign. -/
theorem A_far (K : Nat) (hK : K = 2 ^ 52) (e : Nat) (he : 41 ≤ e) (he2 : e ≤ 1023) : 1099511627776 * SC < A K ((e : Int) - 52) := by
  unfold A
  obtain ⟨e74, he74⟩ : ∃ x, x = 1074 := ⟨_, rfl⟩
  rw [hK, SC_of e74 he74, ← Nat.pow_add, show (1099511627776 : Nat) = 2 ^ 40 by decide, ← Nat.pow_add]
  exact Nat.pow_lt_pow_right (by decide) (by omega)
theorem from_far (b : Nat) (s : Bool) (h : (∃ e : Nat, 41 ≤ e ∧ e ≤ 1023 ∧ double.read b = .number s 4503599627370496 ((e : Int) - 52)) ∨ double.read b = .infinity s) : fromFT b = none := by
  rcases h with ⟨e, h1, h2, h⟩ | h
  · have hA := A_far 4503599627370496 (by decide) e h1 h2
    unfold fromFT
    rw [h]
    simp only
    rw [if_neg (by omega)]
  · unfold fromFT; rw [h]
theorem pow_far {b e : Nat} (h : Pow b e) (he : 41 ≤ e) : (∃ e : Nat, 41 ≤ e ∧ e ≤ 1023 ∧ double.read b = .number false 4503599627370496 ((e : Int) - 52)) ∨ double.read b = .infinity false := by
  rcases h with ⟨h1, h⟩ | ⟨h1, h⟩
  · exact .inl ⟨e, he, h1, h⟩
  · exact .inr h
/- The sign turned. -/
theorem neg_val (b : Nat) : Op.negFloat .f64 b % 9223372036854775808 = b % 9223372036854775808 ∧ Op.negFloat .f64 b / 9223372036854775808 = (b / 9223372036854775808) ^^^ 1 := by
  have e : Op.negFloat .f64 b = b ^^^ 2 ^ 63 := rfl
  have e63 : (9223372036854775808 : Nat) = 2 ^ 63 := by decide
  rw [e, e63, Nat.xor_mod_two_pow, Nat.xor_div_two_pow]
  refine ⟨?_, ?_⟩
  · rw [Nat.mod_self, Nat.xor_zero]
  · rw [Nat.div_self (by decide)]
theorem neg_bits (b : Nat) (hb : b < 18446744073709551616) : Op.negFloat .f64 b < 18446744073709551616 ∧ ∀ s, (∀ m p, double.read b = .number s m p → double.read (Op.negFloat .f64 b) = .number (!s) m p) ∧ (double.read b = .infinity s → double.read (Op.negFloat .f64 b) = .infinity (!s)) := by
  obtain ⟨n1, n2⟩ := neg_val b
  generalize Op.negFloat .f64 b = c at *
  obtain ⟨h1, h2, h3, h4, h5⟩ := dbl_facts
  have hq : b / 9223372036854775808 = 0 ∨ b / 9223372036854775808 = 1 := by omega
  have hread : ∀ x : Nat, double.read x = if x % 9223372036854775808 < 4503599627370496 then .number (x / 9223372036854775808 % 2 == 1) (x % 9223372036854775808) (-1074) else if x % 9223372036854775808 < 9218868437227405312 then .number (x / 9223372036854775808 % 2 == 1) (4503599627370496 + x % 9223372036854775808 % 4503599627370496) (-1074 + ((x % 9223372036854775808 / 4503599627370496 - 1 : Nat) : Int)) else if x % 9223372036854775808 = 9218868437227405312 then .infinity (x / 9223372036854775808 % 2 == 1) else .nan (x / 9223372036854775808 % 2 == 1) (x % 9223372036854775808 - 9218868437227405312) := by
    intro x
    unfold Format.read
    simp only [h1, h2, h3, h4]
  rw [hread b, hread c, n1, n2]
  rcases hq with hq | hq
  · rw [hq] at n2 ⊢
    refine ⟨by simp at n2; omega, fun s => ⟨fun m p h => ?_, fun h => ?_⟩⟩
    all_goals
      generalize b % 9223372036854775808 = r at *
      split at h
      · rename_i hc; first | (injection h with e1 e2 e3; rw [if_pos hc, ← e1, ← e2, ← e3]; rfl) | cases h
      · rename_i hc
        rw [if_neg hc]
        split at h
        · rename_i hc2; first | (injection h with e1 e2 e3; rw [if_pos hc2, ← e1, ← e2, ← e3]; rfl) | cases h
        · rename_i hc2
          rw [if_neg hc2]
          split at h
          · rename_i hc3; first | (injection h with e1; rw [if_pos hc3, ← e1]; rfl) | cases h
          · cases h
  · rw [hq] at n2 ⊢
    refine ⟨by simp at n2; omega, fun s => ⟨fun m p h => ?_, fun h => ?_⟩⟩
    all_goals
      generalize b % 9223372036854775808 = r at *
      split at h
      · rename_i hc; first | (injection h with e1 e2 e3; rw [if_pos hc, ← e1, ← e2, ← e3]; rfl) | cases h
      · rename_i hc
        rw [if_neg hc]
        split at h
        · rename_i hc2; first | (injection h with e1 e2 e3; rw [if_pos hc2, ← e1, ← e2, ← e3]; rfl) | cases h
        · rename_i hc2
          rw [if_neg hc2]
          split at h
          · rename_i hc3; first | (injection h with e1; rw [if_pos hc3, ← e1]; rfl) | cases h
          · cases h
theorem from_max : fromFT 4787326403894837248 = some (1099511627776, 0) := by
  have hfl : flT false 4503599627370496 (-12) = 1099511627776 := by
    unfold flT
    rw [A_maxSec, Nat.mul_div_cancel _ S_pos]
    rfl
  have hsec : secF false 4503599627370496 (-12) = 1099511627776 := by unfold secF; rw [hfl]; rfl
  have hc : cF false 4503599627370496 (-12) = 4787326403894837248 := by unfold cF; rw [hfl]; decide
  have hn : nanoF (qF (rF 4787326403894837248 4787326403894837248)) = 0 := by decide
  unfold fromFT
  rw [read_maxSec]
  simp only
  rw [if_pos (by rw [A_maxSec]; exact Nat.le_refl _), hsec, hc, hn]
  rfl
theorem val_zero (s : Bool) (b : Nat) (h : double.read b = .number s 0 (-1074)) : Val b 0 := val_mk s 0 (-1074) b 0 h (by omega) (by omega) (by unfold A; rw [Nat.zero_mul, Nat.zero_mul, Int.natAbs_zero, Nat.zero_mul]) (.inr rfl)
theorem from_minus : fromFT (Op.negFloat .f64 0) = some (0, 0) := by
  have := from_val _ 0 (val_zero true (Op.negFloat .f64 0) (by decide)) (by decide)
  exact this
theorem val_eq {x y : Nat} {v : Int} (hx : Val x v) (hy : Val y v) : FloatKind.f64.format.order x y = some .eq := by
  obtain ⟨s, m, p, h1, h2, h3, h4⟩ := hx
  obtain ⟨t, n, q, g1, g2, g3, g4⟩ := hy
  rw [order_vals h1 g1 h2 g2, show V s m p = V t n q by omega]
  simp
set_option maxHeartbeats 4000000 in
set_option maxRecDepth 100000 in
theorem stampEdges_walk (n big : Int) (w : World) (hG : Good w) (hn : -2147483648 ≤ n ∧ n ≤ 2147483647) (hb : 0 ≤ big ∧ big ≤ 255) :
    Calls Tryd.prog 8 #[.int .i32 n, .int .u8 big] w fun e w' => e = .returned (.bool true) ∧ Below w.heap.size w w' := by
  have HG := Aside0.mk hG
  clear hG
  have hz : floatBits .quo .f64 0 0 = none := by decide
  have z0 := fun W => run_nan (P := Tryd.prog) .quo 41 0 0 hz rfl W
  clear hz
  obtain ⟨N, hN⟩ : ∃ N : Nat, 40 + big * 4 = N := ⟨(40 + big * 4).toNat, by omega⟩
  go_enter Tryd.func8, Tryd.ntmps8
  go_wp2_with fail
  have hN2 : 40 ≤ N ∧ N ≤ 1060 := by omega
  go_loopw [7, 8] (fun u v wr => ∃ (i b : Nat), i ≤ N ∧ v = .int .i64 i ∧ u = .float .f64 b ∧ Aside0 (Pow b i) ∧ wr = w.drew) (fun _ v _ => N - (intOf v).toNat)
  case atStart => exact ⟨0, _, Nat.zero_le _, rfl, rfl, ⟨pow_one⟩, rfl⟩
  case round =>
    obtain ⟨i, b, hi, rfl, rfl, HP, rfl⟩ := hrel
    obtain ⟨r, hr, hp⟩ := pow_step HP.out
    have m1 := fun W => run_float_arith (P := Tryd.prog) W .mul 41 .f64 b 4611686018427387904 r hr
    by_cases hlt : i < N
    · have hlt2 : (i : Int) < 40 + big * 4 := by omega
      go_wp2_with fail
      go_roundw
      case measure => simp [intOf]; omega
      case rel => exact ⟨i + 1, r, by omega, by go_num, rfl, ⟨hp⟩, trivial⟩
    · obtain rfl : i = N := by omega
      have hge : ¬ ((i : Int) < 40 + big * 4) := by omega
      clear m1
      have m1 := fun W => run_float_arith (P := Tryd.prog) W .mul 41 .f64 b 4611686018427387904 r hr
      have HFar := Aside0.mk (pow_far hp (by omega))
      have hr64 := wf_f64 (floatBits_wf hr)
      clear hr hp
      obtain ⟨hneg1, hneg2⟩ := neg_bits r hr64
      have HNegFar := Aside0.mk (show fromFT (Op.negFloat .f64 r) = none from from_far _ true (by
        rcases HFar.out with ⟨e, h1, h2, h⟩ | h
        · exact .inl ⟨e, h1, h2, (hneg2 false).1 _ _ h⟩
        · exact .inr ((hneg2 false).2 h)))
      have HInf := Aside0.mk (show fromFT 9218868437227405312 = none from from_far _ false (.inr (by decide)))
      have F1 := Aside0.mk (fun W => show Calls Tryd.prog 20 #[.float .f64 (nanOf w 0 0)] W fun e w' => e = .returned (.tuple #[.agg #[.int .i64 0, .int .i64 0], .bool false]) ∧ Below W.heap.size W w' from by
        have := fromFloat_any ((nanOf w 0 0)) (read_nan w 0 0).2 W
        rw [from_nan _ (read_nan w 0 0).1] at this
        exact this)
      have F2 := Aside0.mk (fun W => show Calls Tryd.prog 20 #[.float .f64 r] W fun e w' => e = .returned (.tuple #[.agg #[.int .i64 0, .int .i64 0], .bool false]) ∧ Below W.heap.size W w' from by
        have := fromFloat_any (r) hr64 W
        rw [from_far r false HFar.out] at this
        exact this)
      have F3 := Aside0.mk (fun W => show Calls Tryd.prog 20 #[.float .f64 (Op.negFloat .f64 r)] W fun e w' => e = .returned (.tuple #[.agg #[.int .i64 0, .int .i64 0], .bool false]) ∧ Below W.heap.size W w' from by
        have := fromFloat_any ((Op.negFloat .f64 r)) hneg1 W
        rw [HNegFar.out] at this
        exact this)
      have F4 := Aside0.mk (fun W => show Calls Tryd.prog 20 #[.float .f64 9218868437227405312] W fun e w' => e = .returned (.tuple #[.agg #[.int .i64 0, .int .i64 0], .bool false]) ∧ Below W.heap.size W w' from by
        have := fromFloat_any (9218868437227405312) (by decide) W
        rw [HInf.out] at this
        exact this)
      have F5 := Aside0.mk (fun W => show Calls Tryd.prog 20 #[.float .f64 (Op.negFloat .f64 0)] W fun e w' => e = .returned (.tuple #[.agg #[.int .i64 0, .int .i64 0], .bool true]) ∧ Below W.heap.size W w' from by
        have := fromFloat_any ((Op.negFloat .f64 0)) (neg_bits 0 (by decide)).1 W
        rw [from_minus] at this
        exact this)
      have hvn := val_int n (by omega)
      have hn64 : floatOfInt .f64 n < 18446744073709551616 := wf_f64 (floatOfInt_wf .f64 n)
      have hfn : fromFT (floatOfInt .f64 n) = some (n, 0) := by
        have := from_val _ _ hvn (by omega)
        rw [this]
        congr 1
        refine Prod.ext ?_ ?_ <;> simp only <;> omega
      have F6 := Aside0.mk (fun W => show Calls Tryd.prog 20 #[.float .f64 (floatOfInt .f64 n)] W fun e w' => e = .returned (.tuple #[.agg #[.int .i64 n, .int .i64 0], .bool true]) ∧ Below W.heap.size W w' from by
        have := fromFloat_any ((floatOfInt .f64 n)) hn64 W
        rw [hfn] at this
        exact this)
      have F7 := Aside0.mk (fun W => show Calls Tryd.prog 20 #[.float .f64 4787326403894837248] W fun e w' => e = .returned (.tuple #[.agg #[.int .i64 1099511627776, .int .i64 0], .bool true]) ∧ Below W.heap.size W w' from by
        have := fromFloat_any (4787326403894837248) (by decide) W
        rw [from_max] at this
        exact this)
      obtain ⟨r2, hr2, hv2⟩ := val_sum _ 0 _ 0 hvn (val_zero false 0 (by decide)) (by omega)
      rw [Int.add_zero] at hv2
      have hord := val_eq hv2 hvn
      have FL := Aside0.mk (fun W => float_any n 0 0 r2 (by decide) hr2 W)
      have z1 := fun W => run_float_arith (P := Tryd.prog) W .quo 41 .f64 4607182418800017408 0 9218868437227405312 (by decide)
      clear hneg1 hneg2 hvn hn64 hfn hr2 hv2 hr64 HNegFar HInf HFar
      have HB0 := Aside0.mk (below_drew (Below.refl w.heap.size w))
      go_wp2_with fail
      refine (F1.out _).mono ?_
      rintro e w1 ⟨rfl, hb1⟩
      have HB1 := Aside0.mk (below_next HB0.out hb1)
      clear hb1
      go_wp2_with fail
      refine (F2.out _).mono ?_
      rintro e w2 ⟨rfl, hb2⟩
      have HB2 := Aside0.mk (below_next (below_alloc HB1.out (.cells #[.int .i64 0, .int .i64 0] 24)) hb2)
      clear hb2
      go_wp2_with fail
      refine (F3.out _).mono ?_
      rintro e w3 ⟨rfl, hb3⟩
      have HB3 := Aside0.mk (below_next (below_alloc HB2.out (.cells #[.int .i64 0, .int .i64 0] 24)) hb3)
      clear hb3
      go_wp2_with fail
      refine (F4.out _).mono ?_
      rintro e w4 ⟨rfl, hb4⟩
      have HB4 := Aside0.mk (below_next (below_alloc HB3.out (.cells #[.int .i64 0, .int .i64 0] 24)) hb4)
      clear hb4
      go_wp2_with fail
      refine (F5.out _).mono ?_
      rintro e w5 ⟨rfl, hb5⟩
      have HB5 := Aside0.mk (below_next (below_alloc HB4.out (.cells #[.int .i64 0, .int .i64 0] 24)) hb5)
      clear hb5
      go_wp2_with fail
      have gX5 := heap_alloc_new w5 (.cells #[.int .i64 0, .int .i64 0] 24)
      have HA5 := Aside0.mk (below_alloc HB5.out (.cells #[.int .i64 0, .int .i64 0] 24))
      refine (F6.out _).mono ?_
      rintro e w6 ⟨rfl, hb6⟩
      have HB6 := Aside0.mk (below_next HA5.out hb6)
      have gX6 := (hb6.block _ (blk_lt gX5)).trans gX5
      clear hb6 gX5
      go_wp2_with fail
      have gY6 := heap_alloc_new w6 (.cells #[.int .i64 n, .int .i64 0] 24)
      have HA6 := Aside0.mk (below_alloc HB6.out (.cells #[.int .i64 n, .int .i64 0] 24))
      have gX6' := blk_alloc gX6 (.cells #[.int .i64 n, .int .i64 0] 24)
      clear gX6
      refine (F7.out _).mono ?_
      rintro e w7 ⟨rfl, hb7⟩
      have HB7 := Aside0.mk (below_next HA6.out hb7)
      have gX7 := blk_alloc ((hb7.block _ (blk_lt gX6')).trans gX6') (.cells #[.int .i64 1099511627776, .int .i64 0] 24)
      have gY7 := blk_alloc ((hb7.block _ (blk_lt gY6)).trans gY6) (.cells #[.int .i64 1099511627776, .int .i64 0] 24)
      have gL7 := heap_alloc_new w7 (.cells #[.int .i64 1099511627776, .int .i64 0] 24)
      have HA7 := Aside0.mk (below_alloc HB7.out (.cells #[.int .i64 1099511627776, .int .i64 0] 24))
      have u0 := blk_cell gX7 0
      have u1 := blk_cell gX7 1
      have u2 := blk_cell gY7 0
      have u3 := blk_cell gY7 1
      clear hb7 gX6' gY6
      go_wp2_with fail
      refine (FL.out _).mono ?_
      rintro e w8 ⟨rfl, hb8⟩
      have HB8 := Aside0.mk (below_next HA7.out hb8)
      have gL8 := (hb8.block _ (blk_lt gL7)).trans gL7
      have v0 := blk_cell gL8 0
      have v1 := blk_cell gL8 1
      clear u0 u1 u2 u3 gX7 gY7 gL7 hb8
      go_wp2_with fail
      refine (awake_any _ (HG.out.below HB8.out)).mono ?_
      rintro e wz ⟨rfl, hbz⟩
      go_wp2_with fail
      go_ret
      exact ⟨rfl, below_next HB8.out hbz⟩
end Go.Proofs.YtfdfpgkfhcmlcaaDoor
