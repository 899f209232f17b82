/- num: must, wide, octal. -/
import Derived.Test.YtpmiddhdgidimaaGreatDoorNumField
import Derived.Test.YtpmiddhdgidimaaGreatDoorZeros
import Derived.Test.YtpmiddhdgidimaaGreatDoorHeadGood
set_option linter.unusedVariables false
set_option linter.unusedSimpArgs false
namespace Go.Proofs.YtpmiddhdgidimaaGreatDoor
open Go.RowKit Go.Proofs.YtpmiddhdgidimaaGreatDoorW.PrintWords

/-- The chain of num's own panic. -/
def noFieldC : List PanicEntry := Chain 105 (.agg #[.int .i64 4])
theorem must_true (w : World) : Calls Tryz.prog 82 #[.bool true] w fun e w' => e = .returned (.tuple #[]) ∧ w' = w := by
  go_enter Tryz.func82, Tryz.ntmps82
  go_wp2
  go_end0
  exact ⟨rfl, rfl⟩
theorem must_false (w : World) : Calls Tryz.prog 82 #[.bool false] w fun e w' => e = .panicked noFieldC ∧ w' = w := by
  go_enter Tryz.func82, Tryz.ntmps82
  go_wp2
  exact ⟨rfl, rfl, rfl⟩
theorem wide_any (width : Int) (w : World) : Calls Tryz.prog 84 #[.int .i64 width] w fun e w' => e = .returned (.bool (width == 8 || width == 12)) ∧ w' = w := by
  by_cases h : width = 8
  · subst h
    go_enter Tryz.func84, Tryz.ntmps84
    go_wp2
    go_ret
    exact ⟨rfl, rfl⟩
  · have h2 : (width == 8) = false := by simpa using h
    go_enter Tryz.func84, Tryz.ntmps84
    go_wp2
    go_ret
    exact ⟨by rw [h2]; rfl, rfl⟩
theorem wraps_i63' (n : Int) (h₀ : 0 ≤ n) (h₁ : n < 2 ^ 63) : IntKind.i64.wrap n = n := by rw [IntKind.wrap_i64]; omega
theorem and7w (x : Int) (h0 : 0 ≤ x) (h1 : x < 9223372036854775808) : Go.bits .and .i64 x 7 = x % 8 := bits_mask .i64 63 (by decide) wraps_i63' 3 (by decide) x h0 (by omega)
/-- A new row of bytes 0 that may be written. -/
theorem made_bytes (n : Nat) (hn : n ≤ 1000000) (w : World) : ∃ W, (Instr.makeSlice 40 (.int .i64 (n : Int)) (.int .i64 (n : Int))).run Tryz.prog w = .ok (.slice (some ⟨w.heap.size, 0, none⟩) n n) W ∧ Below w.heap.size w W ∧ W.heap.size = w.heap.size + 1 ∧ Bytes W w.heap.size (List.replicate n 0) := by
  refine ⟨_, run_make_row' (P := Tryz.prog) 40 5 (.int .u8 0) 1 Tryz.underlying40 info_byte rfl .i64 .i64 n (by omega) (by omega) w, (Below.refl _ _).alloc (Nat.le_refl _) _, by simp, ?_⟩
  refine ⟨fun j hj => ?_, fun j hj => ?_, by simp⟩
  · rw [World.cell?_alloc_at _ _ _ _ (by simp)]
    rw [List.length_replicate] at hj
    have h2 : (madeCells #[Value.int .u8 0] n).toList[j]? = some (.int .u8 0) := by rw [toList_madeCells_one, List.getElem?_replicate, if_pos hj]
    rw [← Array.getElem?_toList, h2]
    simp [List.getD_eq_getElem?_getD, hj]
  · exact blk_frozen (heap_alloc_new w (.cells (madeCells #[.int .u8 0] n) 5)) j
/-- The row when so many digits stand in it. -/
def octTo (w n j : Nat) : List UInt8 := List.replicate (w - 1 - j) 0 ++ (octD j n ++ [0])
theorem octTo_length (w n j : Nat) (hj : j + 1 ≤ w) : (octTo w n j).length = w := by unfold octTo; simp [octD_length]; omega
theorem octTo_step (w n j : Nat) (hj : j + 1 < w) : (octTo w n j).set (w - 2 - j) (UInt8.ofNat (48 + n / 8 ^ j % 8)) = octTo w n (j + 1) := by
  unfold octTo
  rw [octD_cons, show w - 1 - j = (w - 2 - j) + 1 by omega, List.replicate_succ', List.append_assoc, List.set_append_right _ _ (by simp), List.length_replicate, Nat.sub_self, show w - 1 - (j + 1) = w - 2 - j by omega]
  rfl
theorem octTo_zero (w n : Nat) (hw : 0 < w) : octTo w n 0 = List.replicate w 0 := by
  unfold octTo octD
  rw [List.nil_append, show w - 1 - 0 = w - 1 by omega]
  rw [← List.replicate_succ' (n := w - 1) (a := (0 : UInt8)), show w - 1 + 1 = w by omega]
theorem octTo_full (w n : Nat) : octTo w n (w - 1) = octL w n := by unfold octTo octL; rw [Nat.sub_self]; rfl
set_option maxHeartbeats 1000000 in
set_option maxRecDepth 100000 in
theorem octal_any (n0 : Nat) (wd : Nat) (hw : wd = 8 ∨ wd = 12) (hn : n0 ≤ 9223372036854775807) (w : World) :
    Calls Tryz.prog 66 #[.int .i64 (n0 : Int), .int .i64 (wd : Int)] w fun e w' => (if n0 < 8 ^ (wd - 1) then e = .returned (.string (mkS (octL wd n0))) else e = .panicked noFieldC) ∧ Below w.heap.size w w' := by
  obtain ⟨W0, hmk, hb0, hz0, hB0⟩ := made_bytes wd (by omega) w
  have hwd : ((wd : Int) == 8 || (wd : Int) == 12) = true := by rcases hw with rfl | rfl <;> rfl
  have hwd2 : 8 ≤ wd ∧ wd ≤ 12 := by omega
  have HB0 := Aside0.mk hb0
  have HY0 := Aside0.mk hB0
  clear hB0 hb0
  go_enter Tryz.func66, Tryz.ntmps66
  go_wp2_with (first
    | (go_at_call 84; refine (wide_any _ _).mono ?_; rintro e w1 ⟨rfl, hw1⟩; rw [hw1, hwd]; clear hw1)
    | (go_at_call 82; refine (must_true _).mono ?_; rintro e w1 ⟨rfl, hw1⟩; rw [hw1]; clear hw1))
  obtain ⟨g, hg⟩ : ∃ g, w.heap.size = g := ⟨_, rfl⟩
  rw [hg] at HY0 ⊢
  go_loopw [0, 6] (fun nv iv wr => ∃ (j m : Nat) (x : Int), j ≤ wd - 1 ∧ iv = .int .i64 x ∧ x = (wd : Int) - 2 - j ∧ nv = .int .i64 (m : Int) ∧ m = n0 / 8 ^ j ∧ Aside0 (Bytes wr g (octTo wd n0 j)) ∧ Aside0 (Below w.heap.size w wr)) (fun _ iv _ => (intOf iv + 1).toNat)
  case atStart => exact ⟨0, n0, _, Nat.zero_le _, rfl, by omega, rfl, by simp, ⟨by rw [octTo_zero wd n0 (by omega)]; exact HY0.out⟩, HB0⟩
  case round =>
    obtain ⟨j, m, x, hj, rfl, hx, rfl, hm, HY, HB⟩ := hrel
    by_cases hx0 : 0 ≤ x
    · obtain ⟨k, rfl⟩ : ∃ k : Nat, x = k := ⟨x.toNat, by omega⟩
      have hkl : k < (octTo wd n0 j).length := by rw [octTo_length _ _ _ (by omega)]; omega
      have u0 := HY.out.cell k hkl
      have u1 := HY.out.free k hkl
      have hmn : m ≤ 9223372036854775807 := by rw [hm]; exact Nat.le_trans (Nat.div_le_self _ _) hn
      obtain ⟨d, hd⟩ : ∃ d : Nat, m % 8 = d := ⟨_, rfl⟩
      have hand : Go.bits .and .i64 (m : Int) 7 = (d : Int) := by rw [and7w _ (by omega) (by omega)]; omega
      have hd8 : d < 8 := by omega
      have HM := Aside0.mk hm
      have HX := Aside0.mk hx
      have HD := Aside0.mk hd
      have hjw : j + 1 < wd := by omega
      have hkw : k < wd := by omega
      clear hm hx hd
      go_wp2_with fail
      go_roundw
      case measure => simp [intOf]
      case rel =>
        have hb8 : (UInt8.ofNat (48 + d)).toNat = 48 + d := by simp [UInt8.toNat_ofNat']; omega
        have hs := HY.out.set k hkl (UInt8.ofNat (48 + d))
        rw [hb8] at hs
        have hk := HX.out
        have hkk : k = wd - 2 - j := by omega
        refine ⟨j + 1, m / 8, _, by omega, rfl, by omega, by go_num, by rw [HM.out, Nat.div_div_eq_div_mul, Nat.pow_succ], ⟨?_⟩, ⟨below_set HB.out (by omega)⟩⟩
        rw [← octTo_step wd n0 j hjw, ← HM.out, HD.out, ← hkk]
        exact hs
    · have hjw : j = wd - 1 := by omega
      subst hjw
      rw [octTo_full] at HY
      have hcv := HY.out.back (P := Tryz.prog) 40 9 5 wd wd (by rw [octL_length _ _ (by omega)]) Tryz.underlying40 Tryz.underlying5 Tryz.underlying9
      by_cases hlt : n0 < 8 ^ (wd - 1)
      · have hm0 : m = 0 := by rw [hm]; exact Nat.div_eq_of_lt hlt
        subst hm0
        clear hm
        go_wp2_with (go_at_call 82; refine (must_true _).mono ?_; rintro e w1 ⟨rfl, hw1⟩; rw [hw1]; clear hw1)
        go_ret
        exact ⟨rfl, by rw [← hg]; exact HB.out⟩
      · have hm0 : ((m : Int) == 0) = false := by
          have : 0 < n0 / 8 ^ (wd - 1) := Nat.div_pos (by omega) (Nat.pow_pos (by decide))
          rw [← hm] at this
          simp; omega
        clear hm
        go_wp2_with (go_at_call 82; refine (must_false _).mono ?_; rintro e w1 ⟨rfl, hw1⟩; rw [hw1]; clear hw1)
        exact ⟨rfl, rfl, by rw [← hg]; exact HB.out⟩
set_option maxRecDepth 100000 in
theorem octal_neg (n : Int) (wd : Nat) (hw : wd = 8 ∨ wd = 12) (hn : n < 0) (w : World) :
    Calls Tryz.prog 66 #[.int .i64 n, .int .i64 (wd : Int)] w fun e w' => e = .panicked noFieldC ∧ w' = w := by
  have hd0 : decide (0 ≤ n) = false := by simp; omega
  have hwd : ((wd : Int) == 8 || (wd : Int) == 12) = true := by rcases hw with rfl | rfl <;> rfl
  go_enter Tryz.func66, Tryz.ntmps66
  go_wp2_with (first
    | (go_at_call 84; refine (wide_any _ _).mono ?_; rintro e w1 ⟨rfl, hw1⟩; rw [hw1, hwd]; clear hw1)
    | (go_at_call 82; refine (must_false _).mono ?_; rintro e w1 ⟨rfl, rfl⟩))
  exact ⟨rfl, rfl, rfl⟩
/-- octal, of whatever number. -/
theorem octal_is (n : Int) (wd : Nat) (hw : wd = 8 ∨ wd = 12) (hn : n ≤ 9223372036854775807) (w : World) :
    Calls Tryz.prog 66 #[.int .i64 n, .int .i64 (wd : Int)] w fun e w' => (if octOk wd n = true then e = .returned (.string (mkS (octL wd n.toNat))) else e = .panicked noFieldC) ∧ Below w.heap.size w w' := by
  by_cases h0 : 0 ≤ n
  · obtain ⟨k, rfl⟩ : ∃ k : Nat, n = k := ⟨n.toNat, by omega⟩
    refine (octal_any k wd hw (by omega) w).mono fun e w' ⟨he, hb⟩ => ⟨?_, hb⟩
    rw [Int.toNat_natCast]
    have : octOk wd (k : Int) = true ↔ k < 8 ^ (wd - 1) := by
      rw [octOk_iff]
      constructor
      · rintro ⟨-, h⟩; exact Int.ofNat_lt.1 h
      · intro h; exact ⟨by omega, Int.ofNat_lt.2 h⟩
    by_cases h : k < 8 ^ (wd - 1)
    · rw [if_pos (this.2 h)]; rw [if_pos h] at he; exact he
    · rw [if_neg (fun e => h (this.1 e))]; rw [if_neg h] at he; exact he
  · refine (octal_neg n wd hw (by omega) w).mono fun e w' ⟨he, hw'⟩ => ⟨?_, by rw [hw']; exact Below.refl _ _⟩
    rw [if_neg (fun e => h0 ((octOk_iff wd n).1 e).1)]
    exact he
end Go.Proofs.YtpmiddhdgidimaaGreatDoor
