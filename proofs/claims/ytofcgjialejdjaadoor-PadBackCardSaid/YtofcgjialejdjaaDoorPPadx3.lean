-- Laid by this session's prt.py (the kit's print.py, some callees proved by hand).
import Derived.Test.YtofcgjialejdjaaDoorPPadx0
import Derived.Test.YtofcgjialejdjaaDoorPPadx1
namespace Go.Proofs.YtofcgjialejdjaaDoor.PPad
open Go.RowKit Go.Proofs.YtofcgjialejdjaaDoorW.PrintWords Go.Proofs.YtofcgjialejdjaaDoorW.PrintLast Go.Proofs.YtofcgjialejdjaaDoorW.PrintMore
attribute [local go_sem] max2_int min2_int max_two min_two max_three min_three max_four min_four   -- for this text's walks alone
set_option linter.unusedVariables false
set_option linter.unusedSimpArgs false

-- NOT PRINTED: function 4 (gripsacklaw8_PadBack)

/-! ### gripsacklaw8_PadSizes: function 5 -/
def gripsacklaw8_PadSizes.f (a0 : Int) (a1 : Int) : Option (Bool) := (pad_Size.f (wrap64 (a0))).bind fun t139 => (if (Int.tmod t139 512) = 0 then (if t139 ≥ (wrap64 (a0)) then (if t139 < (wrap64 ((wrap64 (a0)) + 512)) then ((pad_Size.f (mn a1 0)).bind fun t140 => (if t140 = 0 then ((pad_Size.f t139).bind fun t141 => (if t141 = t139 then ((pad_Size.f 4611686018427387904).bind fun t142 => (if t142 = 4611686018427387904 then ((pad_Size.f (mx a1 4611686018427387904)).bind fun t143 => (if t143 = 4611686018427387904 then ((gripsacklaw8_awake.f).bind fun t144 => (some t144)) else (some false))) else (some false))) else (some false))) else (some false))) else (some false)) else (some false)) else (some false))
set_option maxHeartbeats 8000000 in
set_option maxRecDepth 100000 in
theorem gripsacklaw8_PadSizes.calls (a0 : Int) (a1 : Int) (r : Bool) (w : World) (h : gripsacklaw8_PadSizes.f a0 a1 = some r) :
    Calls Tryd.prog 5 #[.int .u32 a0, .int .i64 a1] w fun e w' => e = .returned (.bool r) ∧ Below w.heap.size w w' := by
  have HB := Aside0.mk (Below.refl w.heap.size w)
  have H : ((pad_Size.f (wrap64 (a0))).bind fun t139 => (if (Int.tmod t139 512) = 0 then (if t139 ≥ (wrap64 (a0)) then (if t139 < (wrap64 ((wrap64 (a0)) + 512)) then ((pad_Size.f (mn a1 0)).bind fun t140 => (if t140 = 0 then ((pad_Size.f t139).bind fun t141 => (if t141 = t139 then ((pad_Size.f 4611686018427387904).bind fun t142 => (if t142 = 4611686018427387904 then ((pad_Size.f (mx a1 4611686018427387904)).bind fun t143 => (if t143 = 4611686018427387904 then ((gripsacklaw8_awake.f).bind fun t144 => (some t144)) else (some false))) else (some false))) else (some false))) else (some false))) else (some false)) else (some false)) else (some false))) = some r := h
  clear h
  replace H := Option.bind_eq_some_iff.mp H
  obtain ⟨t139, A30, H⟩ := H
  replace H : (if (Int.tmod t139 512) = 0 then (if t139 ≥ (wrap64 (a0)) then (if t139 < (wrap64 ((wrap64 (a0)) + 512)) then ((pad_Size.f (mn a1 0)).bind fun t140 => (if t140 = 0 then ((pad_Size.f t139).bind fun t141 => (if t141 = t139 then ((pad_Size.f 4611686018427387904).bind fun t142 => (if t142 = 4611686018427387904 then ((pad_Size.f (mx a1 4611686018427387904)).bind fun t143 => (if t143 = 4611686018427387904 then ((gripsacklaw8_awake.f).bind fun t144 => (some t144)) else (some false))) else (some false))) else (some false))) else (some false))) else (some false)) else (some false)) else (some false)) = some r := H
  have A3 := Aside0.mk A30
  clear A30
  by_cases c4 : (Int.tmod t139 512) = 0
  · rw [if_pos c4] at H
    have c4b0 : ((Int.tmod t139 512) == 0) = true := beq_iff_eq.mpr c4
    have c4b1 : ((Int.tmod t139 512) != 0) = false := bne_eq_false_iff_eq.mpr c4
    clear c4
    by_cases c5 : t139 ≥ (wrap64 (a0))
    · rw [if_pos c5] at H
      have c5b0 : decide ((wrap64 (a0)) ≤ t139) = true := decide_eq_true c5
      clear c5
      by_cases c6 : t139 < (wrap64 ((wrap64 (a0)) + 512))
      · rw [if_pos c6] at H
        have c6b0 : decide (t139 < (wrap64 ((wrap64 (a0)) + 512))) = true := decide_eq_true c6
        clear c6
        obtain ⟨ji7, hji7⟩ : ∃ j_ : Int, (mn a1 0) = j_ := ⟨_, rfl⟩
        replace H : ((pad_Size.f (ji7)).bind fun t140 => (if t140 = 0 then ((pad_Size.f t139).bind fun t141 => (if t141 = t139 then ((pad_Size.f 4611686018427387904).bind fun t142 => (if t142 = 4611686018427387904 then ((pad_Size.f (mx a1 4611686018427387904)).bind fun t143 => (if t143 = 4611686018427387904 then ((gripsacklaw8_awake.f).bind fun t144 => (some t144)) else (some false))) else (some false))) else (some false))) else (some false))) = some r := by first | (rw [hji7] at H; exact H) | (simp only [hji7] at H ⊢; exact H)
        (try rw [hji7] at A3)
        (try (have hji7h : ji7 ≤ 0 := by (rw [← hji7]; unfold mn; (repeat' split) <;> omega)))
        (try (have hji7g : ji7 ≤ 64 := by omega))
        have hji7_ : (if 0 < a1 then 0 else a1) = ji7 := hji7
        replace H := Option.bind_eq_some_iff.mp H
        obtain ⟨t140, A80, H⟩ := H
        replace H : (if t140 = 0 then ((pad_Size.f t139).bind fun t141 => (if t141 = t139 then ((pad_Size.f 4611686018427387904).bind fun t142 => (if t142 = 4611686018427387904 then ((pad_Size.f (mx a1 4611686018427387904)).bind fun t143 => (if t143 = 4611686018427387904 then ((gripsacklaw8_awake.f).bind fun t144 => (some t144)) else (some false))) else (some false))) else (some false))) else (some false)) = some r := H
        have A8 := Aside0.mk A80
        clear A80
        by_cases c9 : t140 = 0
        · rw [if_pos c9] at H
          have c9b0 : (t140 == 0) = true := beq_iff_eq.mpr c9
          have c9b1 : (t140 != 0) = false := bne_eq_false_iff_eq.mpr c9
          clear c9
          replace H := Option.bind_eq_some_iff.mp H
          obtain ⟨t141, A100, H⟩ := H
          replace H : (if t141 = t139 then ((pad_Size.f 4611686018427387904).bind fun t142 => (if t142 = 4611686018427387904 then ((pad_Size.f (mx a1 4611686018427387904)).bind fun t143 => (if t143 = 4611686018427387904 then ((gripsacklaw8_awake.f).bind fun t144 => (some t144)) else (some false))) else (some false))) else (some false)) = some r := H
          have A10 := Aside0.mk A100
          clear A100
          by_cases c11 : t141 = t139
          · rw [if_pos c11] at H
            have c11b0 : (t141 == t139) = true := beq_iff_eq.mpr c11
            have c11b1 : (t141 != t139) = false := bne_eq_false_iff_eq.mpr c11
            clear c11
            replace H := Option.bind_eq_some_iff.mp H
            obtain ⟨t142, A120, H⟩ := H
            replace H : (if t142 = 4611686018427387904 then ((pad_Size.f (mx a1 4611686018427387904)).bind fun t143 => (if t143 = 4611686018427387904 then ((gripsacklaw8_awake.f).bind fun t144 => (some t144)) else (some false))) else (some false)) = some r := H
            have A12 := Aside0.mk A120
            clear A120
            by_cases c13 : t142 = 4611686018427387904
            · rw [if_pos c13] at H
              have c13b0 : (t142 == 4611686018427387904) = true := beq_iff_eq.mpr c13
              have c13b1 : (t142 != 4611686018427387904) = false := bne_eq_false_iff_eq.mpr c13
              clear c13
              obtain ⟨ji14, hji14⟩ : ∃ j_ : Int, (mx a1 4611686018427387904) = j_ := ⟨_, rfl⟩
              replace H : ((pad_Size.f (ji14)).bind fun t143 => (if t143 = 4611686018427387904 then ((gripsacklaw8_awake.f).bind fun t144 => (some t144)) else (some false))) = some r := by first | (rw [hji14] at H; exact H) | (simp only [hji14] at H ⊢; exact H)
              (try rw [hji14] at A3)
              (try rw [hji14] at A8)
              (try rw [hji14] at A10)
              (try rw [hji14] at A12)
              (try (have hji14l : 4611686018427387904 ≤ ji14 := by (rw [← hji14]; unfold mx; (repeat' split) <;> omega)))
              (try (have hji14m : 0 ≤ ji14 := by omega))
              have hji14_ : (if a1 < 4611686018427387904 then 4611686018427387904 else a1) = ji14 := hji14
              replace H := Option.bind_eq_some_iff.mp H
              obtain ⟨t143, A150, H⟩ := H
              replace H : (if t143 = 4611686018427387904 then ((gripsacklaw8_awake.f).bind fun t144 => (some t144)) else (some false)) = some r := H
              have A15 := Aside0.mk A150
              clear A150
              by_cases c16 : t143 = 4611686018427387904
              · rw [if_pos c16] at H
                have c16b0 : (t143 == 4611686018427387904) = true := beq_iff_eq.mpr c16
                have c16b1 : (t143 != 4611686018427387904) = false := bne_eq_false_iff_eq.mpr c16
                clear c16
                replace H := Option.bind_eq_some_iff.mp H
                obtain ⟨t144, A170, H⟩ := H
                replace H : (some t144) = some r := H
                have A17 := Aside0.mk A170
                clear A170
                obtain rfl := Option.some.inj H
                go_enter Tryd.func5, Tryd.ntmps5
                go_wp2_with (first | ((with_reducible refine gate_callee (f := 10) rfl ?_); refine goesL_ (some 8) rfl rfl Tryd.func10 (by kernel_rfl) rfl #[.int .i64 (wrap64 (a0))] rfl (by (try simp only [List.map_toArray, List.map_cons, List.map_nil]); first | done | rfl | (simp only [List.length_drop, List.length_take]; rfl)) ?_; (with_reducible refine (pad_Size.calls (wrap64 (a0)) t139 _ A3.out).mono ?_); rintro e w' ⟨rfl, ⟨nd, rfl⟩⟩; refine ⟨_, rfl, ?_⟩) | (go_at_call 10; (with_reducible refine (pad_Size.calls ji7 t140 _ A8.out).mono ?_); rintro e w' ⟨rfl, ⟨nd, rfl⟩⟩) | (go_at_call 10; (with_reducible refine (pad_Size.calls t139 t141 _ A10.out).mono ?_); rintro e w' ⟨rfl, ⟨nd, rfl⟩⟩) | (go_at_call 10; (with_reducible refine (pad_Size.calls 4611686018427387904 t142 _ A12.out).mono ?_); rintro e w' ⟨rfl, ⟨nd, rfl⟩⟩) | (go_at_call 10; (with_reducible refine (pad_Size.calls ji14 t143 _ A15.out).mono ?_); rintro e w' ⟨rfl, ⟨nd, rfl⟩⟩) | (go_at_call 7; (with_reducible refine (gripsacklaw8_awake.calls  t144 _ A17.out).mono ?_); rintro e w18 ⟨rfl, hb⟩; have n0_ := Aside0.mk (below_step (by repeat (first | (with_reducible first | exact HB.out | apply below_alloc | apply pw_below_drewN | apply below_drew1) | exact HB.out)) hb); clear HB; have HB := n0_; clear n0_; (try clear hb); (try clear hb2); (try clear hk); (try clear hi)))
                go_ret
                exact ⟨by first | rfl | (simp [errW_none, errW_some] <;> rfl) | (simp only [← hji7, ← hji14]; first | rfl | (simp [errW_none, errW_some] <;> rfl)) | (simp [*, errW_none, errW_some] <;> rfl), by repeat (first | (with_reducible first | exact HB.out | apply below_alloc | apply pw_below_drewN | apply below_drew1) | exact HB.out)⟩
              · rw [if_neg c16] at H
                have c16b0 : (t143 == 4611686018427387904) = false := beq_eq_false_iff_ne.mpr c16
                have c16b1 : (t143 != 4611686018427387904) = true := bne_iff_ne.mpr c16
                obtain rfl := Option.some.inj H
                go_enter Tryd.func5, Tryd.ntmps5
                go_wp2_with (first | ((with_reducible refine gate_callee (f := 10) rfl ?_); refine goesL_ (some 8) rfl rfl Tryd.func10 (by kernel_rfl) rfl #[.int .i64 (wrap64 (a0))] rfl (by (try simp only [List.map_toArray, List.map_cons, List.map_nil]); first | done | rfl | (simp only [List.length_drop, List.length_take]; rfl)) ?_; (with_reducible refine (pad_Size.calls (wrap64 (a0)) t139 _ A3.out).mono ?_); rintro e w' ⟨rfl, ⟨nd, rfl⟩⟩; refine ⟨_, rfl, ?_⟩) | (go_at_call 10; (with_reducible refine (pad_Size.calls ji7 t140 _ A8.out).mono ?_); rintro e w' ⟨rfl, ⟨nd, rfl⟩⟩) | (go_at_call 10; (with_reducible refine (pad_Size.calls t139 t141 _ A10.out).mono ?_); rintro e w' ⟨rfl, ⟨nd, rfl⟩⟩) | (go_at_call 10; (with_reducible refine (pad_Size.calls 4611686018427387904 t142 _ A12.out).mono ?_); rintro e w' ⟨rfl, ⟨nd, rfl⟩⟩) | (go_at_call 10; (with_reducible refine (pad_Size.calls ji14 t143 _ A15.out).mono ?_); rintro e w' ⟨rfl, ⟨nd, rfl⟩⟩))
                go_ret
                exact ⟨by first | rfl | (simp [errW_none, errW_some] <;> rfl) | (simp only [← hji7, ← hji14]; first | rfl | (simp [errW_none, errW_some] <;> rfl)) | (simp [*, errW_none, errW_some] <;> rfl), by repeat (first | (with_reducible first | exact HB.out | apply below_alloc | apply pw_below_drewN | apply below_drew1) | exact HB.out)⟩
            · rw [if_neg c13] at H
              have c13b0 : (t142 == 4611686018427387904) = false := beq_eq_false_iff_ne.mpr c13
              have c13b1 : (t142 != 4611686018427387904) = true := bne_iff_ne.mpr c13
              obtain rfl := Option.some.inj H
              go_enter Tryd.func5, Tryd.ntmps5
              go_wp2_with (first | ((with_reducible refine gate_callee (f := 10) rfl ?_); refine goesL_ (some 8) rfl rfl Tryd.func10 (by kernel_rfl) rfl #[.int .i64 (wrap64 (a0))] rfl (by (try simp only [List.map_toArray, List.map_cons, List.map_nil]); first | done | rfl | (simp only [List.length_drop, List.length_take]; rfl)) ?_; (with_reducible refine (pad_Size.calls (wrap64 (a0)) t139 _ A3.out).mono ?_); rintro e w' ⟨rfl, ⟨nd, rfl⟩⟩; refine ⟨_, rfl, ?_⟩) | (go_at_call 10; (with_reducible refine (pad_Size.calls ji7 t140 _ A8.out).mono ?_); rintro e w' ⟨rfl, ⟨nd, rfl⟩⟩) | (go_at_call 10; (with_reducible refine (pad_Size.calls t139 t141 _ A10.out).mono ?_); rintro e w' ⟨rfl, ⟨nd, rfl⟩⟩) | (go_at_call 10; (with_reducible refine (pad_Size.calls 4611686018427387904 t142 _ A12.out).mono ?_); rintro e w' ⟨rfl, ⟨nd, rfl⟩⟩))
              go_ret
              exact ⟨by first | rfl | (simp [errW_none, errW_some] <;> rfl) | (simp only [← hji7]; first | rfl | (simp [errW_none, errW_some] <;> rfl)) | (simp [*, errW_none, errW_some] <;> rfl), by repeat (first | (with_reducible first | exact HB.out | apply below_alloc | apply pw_below_drewN | apply below_drew1) | exact HB.out)⟩
          · rw [if_neg c11] at H
            have c11b0 : (t141 == t139) = false := beq_eq_false_iff_ne.mpr c11
            have c11b1 : (t141 != t139) = true := bne_iff_ne.mpr c11
            obtain rfl := Option.some.inj H
            go_enter Tryd.func5, Tryd.ntmps5
            go_wp2_with (first | ((with_reducible refine gate_callee (f := 10) rfl ?_); refine goesL_ (some 8) rfl rfl Tryd.func10 (by kernel_rfl) rfl #[.int .i64 (wrap64 (a0))] rfl (by (try simp only [List.map_toArray, List.map_cons, List.map_nil]); first | done | rfl | (simp only [List.length_drop, List.length_take]; rfl)) ?_; (with_reducible refine (pad_Size.calls (wrap64 (a0)) t139 _ A3.out).mono ?_); rintro e w' ⟨rfl, ⟨nd, rfl⟩⟩; refine ⟨_, rfl, ?_⟩) | (go_at_call 10; (with_reducible refine (pad_Size.calls ji7 t140 _ A8.out).mono ?_); rintro e w' ⟨rfl, ⟨nd, rfl⟩⟩) | (go_at_call 10; (with_reducible refine (pad_Size.calls t139 t141 _ A10.out).mono ?_); rintro e w' ⟨rfl, ⟨nd, rfl⟩⟩))
            go_ret
            exact ⟨by first | rfl | (simp [errW_none, errW_some] <;> rfl) | (simp only [← hji7]; first | rfl | (simp [errW_none, errW_some] <;> rfl)) | (simp [*, errW_none, errW_some] <;> rfl), by repeat (first | (with_reducible first | exact HB.out | apply below_alloc | apply pw_below_drewN | apply below_drew1) | exact HB.out)⟩
        · rw [if_neg c9] at H
          have c9b0 : (t140 == 0) = false := beq_eq_false_iff_ne.mpr c9
          have c9b1 : (t140 != 0) = true := bne_iff_ne.mpr c9
          obtain rfl := Option.some.inj H
          go_enter Tryd.func5, Tryd.ntmps5
          go_wp2_with (first | ((with_reducible refine gate_callee (f := 10) rfl ?_); refine goesL_ (some 8) rfl rfl Tryd.func10 (by kernel_rfl) rfl #[.int .i64 (wrap64 (a0))] rfl (by (try simp only [List.map_toArray, List.map_cons, List.map_nil]); first | done | rfl | (simp only [List.length_drop, List.length_take]; rfl)) ?_; (with_reducible refine (pad_Size.calls (wrap64 (a0)) t139 _ A3.out).mono ?_); rintro e w' ⟨rfl, ⟨nd, rfl⟩⟩; refine ⟨_, rfl, ?_⟩) | (go_at_call 10; (with_reducible refine (pad_Size.calls ji7 t140 _ A8.out).mono ?_); rintro e w' ⟨rfl, ⟨nd, rfl⟩⟩))
          go_ret
          exact ⟨by first | rfl | (simp [errW_none, errW_some] <;> rfl) | (simp only [← hji7]; first | rfl | (simp [errW_none, errW_some] <;> rfl)) | (simp [*, errW_none, errW_some] <;> rfl), by repeat (first | (with_reducible first | exact HB.out | apply below_alloc | apply pw_below_drewN | apply below_drew1) | exact HB.out)⟩
      · rw [if_neg c6] at H
        have c6b0 : decide (t139 < (wrap64 ((wrap64 (a0)) + 512))) = false := decide_eq_false c6
        clear c6
        obtain rfl := Option.some.inj H
        go_enter Tryd.func5, Tryd.ntmps5
        go_wp2_with (first | ((with_reducible refine gate_callee (f := 10) rfl ?_); refine goesL_ (some 8) rfl rfl Tryd.func10 (by kernel_rfl) rfl #[.int .i64 (wrap64 (a0))] rfl (by (try simp only [List.map_toArray, List.map_cons, List.map_nil]); first | done | rfl | (simp only [List.length_drop, List.length_take]; rfl)) ?_; (with_reducible refine (pad_Size.calls (wrap64 (a0)) t139 _ A3.out).mono ?_); rintro e w' ⟨rfl, ⟨nd, rfl⟩⟩; refine ⟨_, rfl, ?_⟩))
        go_ret
        exact ⟨by first | rfl | (simp [errW_none, errW_some] <;> rfl) | (simp [*, errW_none, errW_some] <;> rfl), by repeat (first | (with_reducible first | exact HB.out | apply below_alloc | apply pw_below_drewN | apply below_drew1) | exact HB.out)⟩
    · rw [if_neg c5] at H
      have c5b0 : decide ((wrap64 (a0)) ≤ t139) = false := decide_eq_false c5
      clear c5
      obtain rfl := Option.some.inj H
      go_enter Tryd.func5, Tryd.ntmps5
      go_wp2_with (first | ((with_reducible refine gate_callee (f := 10) rfl ?_); refine goesL_ (some 8) rfl rfl Tryd.func10 (by kernel_rfl) rfl #[.int .i64 (wrap64 (a0))] rfl (by (try simp only [List.map_toArray, List.map_cons, List.map_nil]); first | done | rfl | (simp only [List.length_drop, List.length_take]; rfl)) ?_; (with_reducible refine (pad_Size.calls (wrap64 (a0)) t139 _ A3.out).mono ?_); rintro e w' ⟨rfl, ⟨nd, rfl⟩⟩; refine ⟨_, rfl, ?_⟩))
      go_ret
      exact ⟨by first | rfl | (simp [errW_none, errW_some] <;> rfl) | (simp [*, errW_none, errW_some] <;> rfl), by repeat (first | (with_reducible first | exact HB.out | apply below_alloc | apply pw_below_drewN | apply below_drew1) | exact HB.out)⟩
  · rw [if_neg c4] at H
    have c4b0 : ((Int.tmod t139 512) == 0) = false := beq_eq_false_iff_ne.mpr c4
    have c4b1 : ((Int.tmod t139 512) != 0) = true := bne_iff_ne.mpr c4
    obtain rfl := Option.some.inj H
    go_enter Tryd.func5, Tryd.ntmps5
    go_wp2_with (first | ((with_reducible refine gate_callee (f := 10) rfl ?_); refine goesL_ (some 8) rfl rfl Tryd.func10 (by kernel_rfl) rfl #[.int .i64 (wrap64 (a0))] rfl (by (try simp only [List.map_toArray, List.map_cons, List.map_nil]); first | done | rfl | (simp only [List.length_drop, List.length_take]; rfl)) ?_; (with_reducible refine (pad_Size.calls (wrap64 (a0)) t139 _ A3.out).mono ?_); rintro e w' ⟨rfl, ⟨nd, rfl⟩⟩; refine ⟨_, rfl, ?_⟩))
    go_ret
    exact ⟨by first | rfl | (simp [errW_none, errW_some] <;> rfl) | (simp [*, errW_none, errW_some] <;> rfl), by repeat (first | (with_reducible first | exact HB.out | apply below_alloc | apply pw_below_drewN | apply below_drew1) | exact HB.out)⟩

/-- THE ONE PURE STATEMENT of gripsacklaw8_PadSizes: yours. -/
def gripsacklaw8_PadSizes.Pure : Prop := ∀ (a0 : Int) (a1 : Int), (Lit.int .u32 a0).wf = true → (Lit.int .i64 a1).wf = true → gripsacklaw8_PadSizes.f a0 a1 = some true
theorem gripsacklaw8_PadSizes.walk (P : gripsacklaw8_PadSizes.Pure) (a0 : Int) (a1 : Int) (w : World) (w0 : (Lit.int .u32 a0).wf = true) (w1 : (Lit.int .i64 a1).wf = true) :
    Calls Tryd.prog 5 #[.int .u32 a0, .int .i64 a1] w fun e w' => e = .returned (.bool true) ∧ Below w.heap.size w w' := by
  have h := P a0 a1 w0 w1
  refine (gripsacklaw8_PadSizes.calls a0 a1 true w h).mono ?_
  rintro e w' ⟨rfl, hd⟩
  exact ⟨rfl, hd⟩

/-! ### gripsacklaw8_PadRows: function 6 -/
mutual
def gripsacklaw8_PadRows.l0 : Nat → List ByteArray → ByteArray → Int → Option (Bool)
  | 0, _, _, _ => none
  | k + 1, x0, x3, x4 => if x4 < (x0.length : Int) then (if 0 ≤ x4 then (if ((rdOf ByteArray.empty x0 x4).size : Int) > 1200 then ((gripsacklaw8_awake.f).bind fun t147 => (some t147)) else ((pad_Put.f (rdOf ByteArray.empty x0 x4)).bind fun t149 => (if x3.size + t149.size ≤ 9223372036854775807 then (gripsacklaw8_PadRows.l0 k x0 (x3 ++ t149) (wrap64 (x4 + 1))) else (none)))) else (none)) else (gripsacklaw8_PadRows.l1 k x0 x3 0 0)
def gripsacklaw8_PadRows.l1 : Nat → List ByteArray → ByteArray → Int → Int → Option (Bool)
  | 0, _, _, _, _ => none
  | k + 1, x0, x3, x5, x6 => if x6 < (x0.length : Int) then (if 0 ≤ x6 then ((pad_Get.f x3 x5 ((rdOf ByteArray.empty x0 x6).size : Int)).bind fun bt151 => (if bt151.1.toList = (rdOf ByteArray.empty x0 x6).toList then ((gripsacklaw1_Err.f bt151.2.2).bind fun t155 => (if t155 = 0 then (if bt151.2.1 < x5 then (some false) else (gripsacklaw8_PadRows.l1 k x0 x3 bt151.2.1 (wrap64 (x6 + 1)))) else (some false))) else (some false))) else (none)) else ((pad_Get.f x3 (wrap64 ((x3.size : Int) + 1)) 0).bind fun bt156 => ((pad_Get.f x3 0 (-1)).bind fun bt159 => (if x5 = (x3.size : Int) then ((gripsacklaw1_Err.f bt156.2.2).bind fun t162 => (if t162 = 1 then ((gripsacklaw1_Err.f bt159.2.2).bind fun t163 => (if t163 = 1 then ((gripsacklaw8_awake.f).bind fun t164 => (some t164)) else (some false))) else (some false))) else (some false))))
end
def gripsacklaw8_PadRows.f (k : Nat) (l0 : List ByteArray) : Option (Bool) := if (l0.length : Int) > 6 then ((gripsacklaw8_awake.f).bind fun t145 => (some t145)) else (gripsacklaw8_PadRows.l0 k l0 (⟨#[]⟩ : ByteArray) 0)
theorem gripsacklaw8_PadRows.mono_l : ∀ k, (∀ y0 y1 y2, LeO (gripsacklaw8_PadRows.l0 k y0 y1 y2) (gripsacklaw8_PadRows.l0 (k + 1) y0 y1 y2)) ∧ (∀ y0 y1 y2 y3, LeO (gripsacklaw8_PadRows.l1 k y0 y1 y2 y3) (gripsacklaw8_PadRows.l1 (k + 1) y0 y1 y2 y3))
  | 0 => ⟨fun _ _ _ r h => by simp [gripsacklaw8_PadRows.l0] at h, fun _ _ _ _ r h => by simp [gripsacklaw8_PadRows.l1] at h⟩
  | k + 1 => by
    obtain ⟨ih0, ih1⟩ := gripsacklaw8_PadRows.mono_l k
    refine ⟨?_, ?_⟩
    · intro y0 y1 y2
      unfold gripsacklaw8_PadRows.l0
      repeat' first
      | (with_reducible exact ih0 _ _ _)
      | (with_reducible exact ih1 _ _ _ _)
      | (with_reducible exact LeO.refl _)
      | (with_reducible exact LeO.none _)
      | (with_reducible refine LeO.ite ?_ ?_)
      | (with_reducible refine LeO.bind ?_ (fun _ => ?_))
      | exact ih0 _ _ _
      | exact ih1 _ _ _ _
      | exact LeO.none _
      | refine LeO.ite ?_ ?_
      | refine LeO.bind ?_ (fun _ => ?_)
    · intro y0 y1 y2 y3
      unfold gripsacklaw8_PadRows.l1
      repeat' first
      | (with_reducible exact ih0 _ _ _)
      | (with_reducible exact ih1 _ _ _ _)
      | (with_reducible exact LeO.refl _)
      | (with_reducible exact LeO.none _)
      | (with_reducible refine LeO.ite ?_ ?_)
      | (with_reducible refine LeO.bind ?_ (fun _ => ?_))
      | exact ih0 _ _ _
      | exact ih1 _ _ _ _
      | exact LeO.none _
      | refine LeO.ite ?_ ?_
      | refine LeO.bind ?_ (fun _ => ?_)
theorem gripsacklaw8_PadRows.mono : ∀ a0 k, LeO (gripsacklaw8_PadRows.f k a0) (gripsacklaw8_PadRows.f (k + 1) a0) := by
  intro a0 k
  obtain ⟨ih0, ih1⟩ := gripsacklaw8_PadRows.mono_l k
  unfold gripsacklaw8_PadRows.f
  repeat' first
      | (with_reducible exact ih0 _ _ _)
      | (with_reducible exact ih1 _ _ _ _)
      | (with_reducible exact LeO.refl _)
      | (with_reducible exact LeO.none _)
      | (with_reducible refine LeO.ite ?_ ?_)
      | (with_reducible refine LeO.bind ?_ (fun _ => ?_))
      | exact ih0 _ _ _
      | exact ih1 _ _ _ _
      | exact LeO.none _
      | refine LeO.ite ?_ ?_
      | refine LeO.bind ?_ (fun _ => ?_)
set_option maxHeartbeats 8000000 in
set_option maxRecDepth 100000 in
theorem gripsacklaw8_PadRows.calls (k : Nat) (A0 : Option Addr) (c0 : Nat) (l0 : List ByteArray) (r : Bool) (w : World) (hr0 : Kd.C Kd.string w A0 l0.length l0) (hc0 : l0.length ≤ c0) (h : gripsacklaw8_PadRows.f k l0 = some r) :
    Calls Tryd.prog 6 #[.slice A0 l0.length c0] w fun e w' => e = .returned (.bool r) ∧ Below w.heap.size w w' := by
  have HR0 := Aside0.mk hr0
  have HC0 := Aside0.mk hc0
  clear hr0 hc0
  have HB := Aside0.mk (Below.refl w.heap.size w)
  have H : (if (l0.length : Int) > 6 then ((gripsacklaw8_awake.f).bind fun t145 => (some t145)) else (gripsacklaw8_PadRows.l0 k l0 (⟨#[]⟩ : ByteArray) 0)) = some r := h
  clear h
  by_cases c2 : (l0.length : Int) > 6
  · rw [if_pos c2] at H
    have c2b0 : decide (6 < (l0.length : Int)) = true := decide_eq_true c2
    have c2b1 : decide (6 < l0.length) = true := decide_eq_true (by omega)
    clear c2
    replace H := Option.bind_eq_some_iff.mp H
    obtain ⟨t145, A30, H⟩ := H
    replace H : (some t145) = some r := H
    have A3 := Aside0.mk A30
    clear A30
    obtain rfl := Option.some.inj H
    go_enter Tryd.func6, Tryd.ntmps6
    go_wp2_with (first | ((with_reducible refine gate_callee (f := 7) rfl ?_); refine goesL_ (some 19) rfl rfl Tryd.func7 (by kernel_rfl) rfl #[] rfl (by (try simp only [List.map_toArray, List.map_cons, List.map_nil]); first | done | rfl | (simp only [List.length_drop, List.length_take]; rfl)) ?_; (with_reducible refine (gripsacklaw8_awake.calls  t145 _ A3.out).mono ?_); rintro e w4 ⟨rfl, hb⟩; refine ⟨_, rfl, ?_⟩; have n0_ := Aside0.mk (below_step (by repeat (first | (with_reducible first | exact HB.out | apply below_alloc | apply pw_below_drewN | apply below_drew1) | exact HB.out)) hb); clear HB; have HB := n0_; clear n0_; (try clear hb); (try clear hb2); (try clear hk); (try clear hi)))
    go_ret
    exact ⟨by first | rfl | (simp [errW_none, errW_some] <;> rfl) | (simp [*, errW_none, errW_some] <;> rfl), by repeat (first | (with_reducible first | exact HB.out | apply below_alloc | apply pw_below_drewN | apply below_drew1) | exact HB.out)⟩
  · rw [if_neg c2] at H
    have c2b0 : decide (6 < (l0.length : Int)) = false := decide_eq_false c2
    have c2b1 : decide (6 < l0.length) = false := decide_eq_false (by omega)
    clear c2
    have H' := Aside0.mk H
    clear H
    go_enter Tryd.func6, Tryd.ntmps6
    go_wp2
    go_loopg [3, 4] k (fun kq v3 v4 w' => ∃ (x3_1 : ByteArray) (x4_1 : Int), v3 = .string x3_1 ∧ v4 = .int .i64 x4_1 ∧ Aside0 (gripsacklaw8_PadRows.l0 kq l0 x3_1 x4_1 = some r) ∧ Aside0 (kq ≤ k) ∧ Aside0 (Below w.heap.size w w'))
    case atStart => exact ⟨((⟨#[]⟩ : ByteArray)), (0), (by first | rfl | (simp; done) | (simp [*]; done)), (by first | rfl | (simp; done) | (simp [*]; done)), H', ⟨Nat.le_refl _⟩, ⟨by repeat (first | (with_reducible first | exact HB.out | apply below_alloc | apply pw_below_drewN | apply below_drew1) | exact HB.out)⟩⟩
    case round =>
      clear H'
      try clear c2
      try clear c2b0
      try clear c2b1
      try clear p2
      obtain ⟨x3_1, x4_1, rfl, rfl, HA, HK1, HB⟩ := hrel
      cases gk with
      | zero => exact absurd HA.out (by simp [gripsacklaw8_PadRows.l0])
      | succ k1 =>
        have H := HA.out
        clear HA
        simp only [gripsacklaw8_PadRows.l0] at H
        by_cases c5 : x4_1 < (l0.length : Int)
        · rw [if_pos c5] at H
          have c5b0 : decide (x4_1 < (l0.length : Int)) = true := decide_eq_true c5
          clear c5
          by_cases c6 : 0 ≤ x4_1
          · rw [if_pos c6] at H
            have c6b0 : decide (0 ≤ x4_1) = true := decide_eq_true c6
            clear c6
            by_cases c7 : ((rdOf ByteArray.empty l0 x4_1).size : Int) > 1200
            · rw [if_pos c7] at H
              have c7b0 : decide (1200 < ((rdOf ByteArray.empty l0 x4_1).size : Int)) = true := decide_eq_true c7
              have c7b1 : decide (1200 < (rdOf ByteArray.empty l0 x4_1).size) = true := decide_eq_true (by omega)
              clear c7
              replace H := Option.bind_eq_some_iff.mp H
              obtain ⟨t147, A80, H⟩ := H
              replace H : (some t147) = some r := H
              have A8 := Aside0.mk A80
              clear A80
              obtain rfl := Option.some.inj H
              have p146 : 0 ≤ (x4_1 : Int) := of_decide_eq_true (by first | (with_reducible assumption) | assumption)
              have q146 : x4_1 < (l0.length : Int) := of_decide_eq_true (by first | (with_reducible assumption) | assumption)
              obtain ⟨ad146, e146, hx146_0⟩ := Kd.at_string HR0.out x4_1 p146 q146
              cases e146
              replace hx146_0 := (HB.out.cell (World.block_lt_of_cell? w _ hx146_0)).trans hx146_0
              replace p146 := eq_true p146
              replace q146 := eq_true q146
              go_wp2_with (first | ((with_reducible refine gate_callee (f := 7) rfl ?_); refine goesL_ (some 32) rfl rfl Tryd.func7 (by kernel_rfl) rfl #[] rfl (by (try simp only [List.map_toArray, List.map_cons, List.map_nil]); first | done | rfl | (simp only [List.length_drop, List.length_take]; rfl)) ?_; (with_reducible refine (gripsacklaw8_awake.calls  t147 _ A8.out).mono ?_); rintro e w9 ⟨rfl, hb⟩; refine ⟨_, rfl, ?_⟩; have n0_ := Aside0.mk (below_step (by repeat (first | (with_reducible first | exact HB.out | apply below_alloc | apply pw_below_drewN | apply below_drew1) | exact HB.out)) hb); clear HB; have HB := n0_; clear n0_; (try clear hb); (try clear hb2); (try clear hk); (try clear hi)))
              go_ret
              exact ⟨by first | rfl | (simp [errW_none, errW_some] <;> rfl) | (simp [*, errW_none, errW_some] <;> rfl), by repeat (first | (with_reducible first | exact HB.out | apply below_alloc | apply pw_below_drewN | apply below_drew1) | exact HB.out)⟩
            · rw [if_neg c7] at H
              have c7b0 : decide (1200 < ((rdOf ByteArray.empty l0 x4_1).size : Int)) = false := decide_eq_false c7
              have c7b1 : decide (1200 < (rdOf ByteArray.empty l0 x4_1).size) = false := decide_eq_false (by omega)
              clear c7
              replace H := Option.bind_eq_some_iff.mp H
              obtain ⟨t149, A100, H⟩ := H
              replace H : (if x3_1.size + t149.size ≤ 9223372036854775807 then (gripsacklaw8_PadRows.l0 k1 l0 (x3_1 ++ t149) (wrap64 (x4_1 + 1))) else (none)) = some r := H
              have A10 := Aside0.mk A100
              clear A100
              by_cases c11 : x3_1.size + t149.size ≤ 9223372036854775807
              · rw [if_pos c11] at H
                have c11b0 := eq_true c11
                have c11b1 : decide (x3_1.size + t149.size ≤ 9223372036854775807) = true := decide_eq_true c11
                try have c11b2 : (9223372036854775807 < x3_1.size + t149.size) = False := eq_false (Nat.not_lt.2 c11)
                have H' := Aside0.mk H
                clear H
                have p146 : 0 ≤ (x4_1 : Int) := of_decide_eq_true (by first | (with_reducible assumption) | assumption)
                have q146 : x4_1 < (l0.length : Int) := of_decide_eq_true (by first | (with_reducible assumption) | assumption)
                obtain ⟨ad146, e146, hx146_0⟩ := Kd.at_string HR0.out x4_1 p146 q146
                cases e146
                replace hx146_0 := (HB.out.cell (World.block_lt_of_cell? w _ hx146_0)).trans hx146_0
                replace p146 := eq_true p146
                replace q146 := eq_true q146
                have p148 : 0 ≤ (x4_1 : Int) := of_decide_eq_true (by first | (with_reducible assumption) | assumption)
                have q148 : x4_1 < (l0.length : Int) := of_decide_eq_true (by first | (with_reducible assumption) | assumption)
                obtain ⟨ad148, e148, hx148_0⟩ := Kd.at_string HR0.out x4_1 p148 q148
                obtain rfl : ad146 = ad148 := (by injection e148)
                replace hx148_0 := (HB.out.cell (World.block_lt_of_cell? w _ hx148_0)).trans hx148_0
                replace p148 := eq_true p148
                replace q148 := eq_true q148
                go_wp2_with (first | ((with_reducible refine gate_callee (f := 12) rfl ?_); refine goesL_ (some 38) rfl rfl Tryd.func12 (by kernel_rfl) rfl #[.string (rdOf ByteArray.empty l0 x4_1)] rfl (by (try simp only [List.map_toArray, List.map_cons, List.map_nil]); first | done | rfl | (simp only [List.length_drop, List.length_take]; rfl)) ?_; (with_reducible refine (pad_Put.calls (rdOf ByteArray.empty l0 x4_1) t149 _ A10.out).mono ?_); rintro e w12 ⟨rfl, hb⟩; refine ⟨_, rfl, ?_⟩; have n0_ := Aside0.mk (below_step (by repeat (first | (with_reducible first | exact HB.out | apply below_alloc | apply pw_below_drewN | apply below_drew1) | exact HB.out)) hb); clear HB; have HB := n0_; clear n0_; (try clear hb); (try clear hb2); (try clear hk); (try clear hi)))
                go_roundg k1
                case measure => have := HK1.out; omega
                case rel => exact ⟨(x3_1 ++ t149), (wrap64 (x4_1 + 1)), (by first | rfl | (simp; done) | (simp [*]; done)), (by first | rfl | (simp; done) | (simp [*]; done)), H', ⟨by have := HK1.out; omega⟩, ⟨by repeat (first | (with_reducible first | exact HB.out | apply below_alloc | apply pw_below_drewN | apply below_drew1) | exact HB.out)⟩⟩
              · rw [if_neg c11] at H
                exact absurd H (by simp)
          · rw [if_neg c6] at H
            exact absurd H (by simp)
        · rw [if_neg c5] at H
          have c5b0 : decide (x4_1 < (l0.length : Int)) = false := decide_eq_false c5
          clear c5
          have H' := Aside0.mk H
          clear H
          go_wp2
          go_loopg [5, 6] k1 (fun kq v5 v6 w' => ∃ (x5_2 : Int) (x6_2 : Int), v5 = .int .i64 x5_2 ∧ v6 = .int .i64 x6_2 ∧ Aside0 (gripsacklaw8_PadRows.l1 kq l0 x3_1 x5_2 x6_2 = some r) ∧ Aside0 (kq ≤ k1) ∧ Aside0 (Below w.heap.size w w'))
          case atStart => exact ⟨(0), (0), (by first | rfl | (simp; done) | (simp [*]; done)), (by first | rfl | (simp; done) | (simp [*]; done)), H', ⟨Nat.le_refl _⟩, ⟨by repeat (first | (with_reducible first | exact HB.out | apply below_alloc | apply pw_below_drewN | apply below_drew1) | exact HB.out)⟩⟩
          case round =>
            clear H'
            try clear c1
            try clear p1
            try clear q1
            try clear hx1
            try clear c2
            try clear c2b0
            try clear c2b1
            try clear p2
            try clear c5
            try clear c5b0
            try clear c6
            try clear c6b0
            try clear p6
            try clear c7
            try clear c7b0
            try clear c7b1
            try clear c11
            try clear c11b0
            try clear c11b1
            try clear c11b2
            try clear c12
            try clear hx146_0
            try clear hx148_0
            try clear p146
            try clear p148
            try clear p2
            try clear q146
            try clear q148
            obtain ⟨x5_2, x6_2, rfl, rfl, HA, HK2, HB⟩ := hrel
            cases gk with
            | zero => exact absurd HA.out (by simp [gripsacklaw8_PadRows.l1])
            | succ k2 =>
              have H := HA.out
              clear HA
              simp only [gripsacklaw8_PadRows.l1] at H
              by_cases c13 : x6_2 < (l0.length : Int)
              · rw [if_pos c13] at H
                have c13b0 : decide (x6_2 < (l0.length : Int)) = true := decide_eq_true c13
                clear c13
                by_cases c14 : 0 ≤ x6_2
                · rw [if_pos c14] at H
                  have c14b0 : decide (0 ≤ x6_2) = true := decide_eq_true c14
                  clear c14
                  replace H := Option.bind_eq_some_iff.mp H
                  obtain ⟨⟨t151, t152, t153⟩, A150, H⟩ := H
                  replace H : (if t151.toList = (rdOf ByteArray.empty l0 x6_2).toList then ((gripsacklaw1_Err.f t153).bind fun t155 => (if t155 = 0 then (if t152 < x5_2 then (some false) else (gripsacklaw8_PadRows.l1 k2 l0 x3_1 t152 (wrap64 (x6_2 + 1)))) else (some false))) else (some false)) = some r := H
                  have A15 := Aside0.mk A150
                  clear A150
                  by_cases c16 : t151.toList = (rdOf ByteArray.empty l0 x6_2).toList
                  · rw [if_pos c16] at H
                    have c16b0 : (t151.toList == (rdOf ByteArray.empty l0 x6_2).toList) = true := beq_iff_eq.mpr c16
                    have c16b1 : (t151.toList != (rdOf ByteArray.empty l0 x6_2).toList) = false := bne_eq_false_iff_eq.mpr c16
                    clear c16
                    replace H := Option.bind_eq_some_iff.mp H
                    obtain ⟨t155, A170, H⟩ := H
                    replace H : (if t155 = 0 then (if t152 < x5_2 then (some false) else (gripsacklaw8_PadRows.l1 k2 l0 x3_1 t152 (wrap64 (x6_2 + 1)))) else (some false)) = some r := H
                    have A17 := Aside0.mk A170
                    clear A170
                    by_cases c18 : t155 = 0
                    · rw [if_pos c18] at H
                      have c18b0 : (t155 == 0) = true := beq_iff_eq.mpr c18
                      have c18b1 : (t155 != 0) = false := bne_eq_false_iff_eq.mpr c18
                      clear c18
                      by_cases c19 : t152 < x5_2
                      · rw [if_pos c19] at H
                        have c19b0 : decide (t152 < x5_2) = true := decide_eq_true c19
                        clear c19
                        obtain rfl := Option.some.inj H
                        have p150 : 0 ≤ (x6_2 : Int) := of_decide_eq_true (by first | (with_reducible assumption) | assumption)
                        have q150 : x6_2 < (l0.length : Int) := of_decide_eq_true (by first | (with_reducible assumption) | assumption)
                        obtain ⟨ad150, e150, hx150_0⟩ := Kd.at_string HR0.out x6_2 p150 q150
                        cases e150
                        replace hx150_0 := (HB.out.cell (World.block_lt_of_cell? w _ hx150_0)).trans hx150_0
                        replace p150 := eq_true p150
                        replace q150 := eq_true q150
                        go_wp2_with (first | ((with_reducible refine gate_callee (f := 8) rfl ?_); refine goesL_ (some 54) rfl rfl Tryd.func8 (by kernel_rfl) rfl #[.string x3_1, .int .i64 x5_2, .int .i64 ((rdOf ByteArray.empty l0 x6_2).size : Int)] rfl (by (try simp only [List.map_toArray, List.map_cons, List.map_nil]); first | done | rfl | (simp only [List.length_drop, List.length_take]; rfl)) ?_; (with_reducible refine (pad_Get.calls x3_1 x5_2 ((rdOf ByteArray.empty l0 x6_2).size : Int) t151 t152 t153 _ A15.out).mono ?_); rintro e w20 ⟨rfl, hb⟩; refine ⟨_, rfl, ?_⟩; have n0_ := Aside0.mk (below_step (by repeat (first | (with_reducible first | exact HB.out | apply below_alloc | apply pw_below_drewN | apply below_drew1) | exact HB.out)) hb); clear HB; have HB := n0_; clear n0_; (try clear hb); (try clear hb2); (try clear hk); (try clear hi); have p154 : 0 ≤ (x6_2 : Int) := of_decide_eq_true (by first | (with_reducible assumption) | assumption); have q154 : x6_2 < (l0.length : Int) := of_decide_eq_true (by first | (with_reducible assumption) | assumption); obtain ⟨ad154, e154, hx154_0⟩ := Kd.at_string HR0.out x6_2 p154 q154; obtain rfl : ad150 = ad154 := (by injection e154); replace hx154_0 := (HB.out.cell (World.block_lt_of_cell? w _ hx154_0)).trans hx154_0; replace p154 := eq_true p154; replace q154 := eq_true q154) | (go_at_call 14; (with_reducible refine (gripsacklaw1_Err.calls t153 t155 _ A17.out).mono ?_); rintro e w' ⟨rfl, ⟨nd, rfl⟩⟩))
                        go_ret
                        exact ⟨by first | rfl | (simp [errW_none, errW_some] <;> rfl) | (simp [*, errW_none, errW_some] <;> rfl), by repeat (first | (with_reducible first | exact HB.out | apply below_alloc | apply pw_below_drewN | apply below_drew1) | exact HB.out)⟩
                      · rw [if_neg c19] at H
                        have c19b0 : decide (t152 < x5_2) = false := decide_eq_false c19
                        clear c19
                        have H' := Aside0.mk H
                        clear H
                        have p150 : 0 ≤ (x6_2 : Int) := of_decide_eq_true (by first | (with_reducible assumption) | assumption)
                        have q150 : x6_2 < (l0.length : Int) := of_decide_eq_true (by first | (with_reducible assumption) | assumption)
                        obtain ⟨ad150, e150, hx150_0⟩ := Kd.at_string HR0.out x6_2 p150 q150
                        cases e150
                        replace hx150_0 := (HB.out.cell (World.block_lt_of_cell? w _ hx150_0)).trans hx150_0
                        replace p150 := eq_true p150
                        replace q150 := eq_true q150
                        go_wp2_with (first | ((with_reducible refine gate_callee (f := 8) rfl ?_); refine goesL_ (some 54) rfl rfl Tryd.func8 (by kernel_rfl) rfl #[.string x3_1, .int .i64 x5_2, .int .i64 ((rdOf ByteArray.empty l0 x6_2).size : Int)] rfl (by (try simp only [List.map_toArray, List.map_cons, List.map_nil]); first | done | rfl | (simp only [List.length_drop, List.length_take]; rfl)) ?_; (with_reducible refine (pad_Get.calls x3_1 x5_2 ((rdOf ByteArray.empty l0 x6_2).size : Int) t151 t152 t153 _ A15.out).mono ?_); rintro e w21 ⟨rfl, hb⟩; refine ⟨_, rfl, ?_⟩; have n0_ := Aside0.mk (below_step (by repeat (first | (with_reducible first | exact HB.out | apply below_alloc | apply pw_below_drewN | apply below_drew1) | exact HB.out)) hb); clear HB; have HB := n0_; clear n0_; (try clear hb); (try clear hb2); (try clear hk); (try clear hi); have p154 : 0 ≤ (x6_2 : Int) := of_decide_eq_true (by first | (with_reducible assumption) | assumption); have q154 : x6_2 < (l0.length : Int) := of_decide_eq_true (by first | (with_reducible assumption) | assumption); obtain ⟨ad154, e154, hx154_0⟩ := Kd.at_string HR0.out x6_2 p154 q154; obtain rfl : ad150 = ad154 := (by injection e154); replace hx154_0 := (HB.out.cell (World.block_lt_of_cell? w _ hx154_0)).trans hx154_0; replace p154 := eq_true p154; replace q154 := eq_true q154) | (go_at_call 14; (with_reducible refine (gripsacklaw1_Err.calls t153 t155 _ A17.out).mono ?_); rintro e w' ⟨rfl, ⟨nd, rfl⟩⟩))
                        go_roundg k2
                        case measure => have := HK1.out; have := HK2.out; omega
                        case rel => exact ⟨(t152), (wrap64 (x6_2 + 1)), (by first | rfl | (simp; done) | (simp [*]; done)), (by first | rfl | (simp; done) | (simp [*]; done)), H', ⟨by have := HK1.out; have := HK2.out; omega⟩, ⟨by repeat (first | (with_reducible first | exact HB.out | apply below_alloc | apply pw_below_drewN | apply below_drew1) | exact HB.out)⟩⟩
                    · rw [if_neg c18] at H
                      have c18b0 : (t155 == 0) = false := beq_eq_false_iff_ne.mpr c18
                      have c18b1 : (t155 != 0) = true := bne_iff_ne.mpr c18
                      obtain rfl := Option.some.inj H
                      have p150 : 0 ≤ (x6_2 : Int) := of_decide_eq_true (by first | (with_reducible assumption) | assumption)
                      have q150 : x6_2 < (l0.length : Int) := of_decide_eq_true (by first | (with_reducible assumption) | assumption)
                      obtain ⟨ad150, e150, hx150_0⟩ := Kd.at_string HR0.out x6_2 p150 q150
                      cases e150
                      replace hx150_0 := (HB.out.cell (World.block_lt_of_cell? w _ hx150_0)).trans hx150_0
                      replace p150 := eq_true p150
                      replace q150 := eq_true q150
                      go_wp2_with (first | ((with_reducible refine gate_callee (f := 8) rfl ?_); refine goesL_ (some 54) rfl rfl Tryd.func8 (by kernel_rfl) rfl #[.string x3_1, .int .i64 x5_2, .int .i64 ((rdOf ByteArray.empty l0 x6_2).size : Int)] rfl (by (try simp only [List.map_toArray, List.map_cons, List.map_nil]); first | done | rfl | (simp only [List.length_drop, List.length_take]; rfl)) ?_; (with_reducible refine (pad_Get.calls x3_1 x5_2 ((rdOf ByteArray.empty l0 x6_2).size : Int) t151 t152 t153 _ A15.out).mono ?_); rintro e w22 ⟨rfl, hb⟩; refine ⟨_, rfl, ?_⟩; have n0_ := Aside0.mk (below_step (by repeat (first | (with_reducible first | exact HB.out | apply below_alloc | apply pw_below_drewN | apply below_drew1) | exact HB.out)) hb); clear HB; have HB := n0_; clear n0_; (try clear hb); (try clear hb2); (try clear hk); (try clear hi); have p154 : 0 ≤ (x6_2 : Int) := of_decide_eq_true (by first | (with_reducible assumption) | assumption); have q154 : x6_2 < (l0.length : Int) := of_decide_eq_true (by first | (with_reducible assumption) | assumption); obtain ⟨ad154, e154, hx154_0⟩ := Kd.at_string HR0.out x6_2 p154 q154; obtain rfl : ad150 = ad154 := (by injection e154); replace hx154_0 := (HB.out.cell (World.block_lt_of_cell? w _ hx154_0)).trans hx154_0; replace p154 := eq_true p154; replace q154 := eq_true q154) | (go_at_call 14; (with_reducible refine (gripsacklaw1_Err.calls t153 t155 _ A17.out).mono ?_); rintro e w' ⟨rfl, ⟨nd, rfl⟩⟩))
                      go_ret
                      exact ⟨by first | rfl | (simp [errW_none, errW_some] <;> rfl) | (simp [*, errW_none, errW_some] <;> rfl), by repeat (first | (with_reducible first | exact HB.out | apply below_alloc | apply pw_below_drewN | apply below_drew1) | exact HB.out)⟩
                  · rw [if_neg c16] at H
                    have c16b0 : (t151.toList == (rdOf ByteArray.empty l0 x6_2).toList) = false := beq_eq_false_iff_ne.mpr c16
                    have c16b1 : (t151.toList != (rdOf ByteArray.empty l0 x6_2).toList) = true := bne_iff_ne.mpr c16
                    obtain rfl := Option.some.inj H
                    have p150 : 0 ≤ (x6_2 : Int) := of_decide_eq_true (by first | (with_reducible assumption) | assumption)
                    have q150 : x6_2 < (l0.length : Int) := of_decide_eq_true (by first | (with_reducible assumption) | assumption)
                    obtain ⟨ad150, e150, hx150_0⟩ := Kd.at_string HR0.out x6_2 p150 q150
                    cases e150
                    replace hx150_0 := (HB.out.cell (World.block_lt_of_cell? w _ hx150_0)).trans hx150_0
                    replace p150 := eq_true p150
                    replace q150 := eq_true q150
                    go_wp2_with (first | ((with_reducible refine gate_callee (f := 8) rfl ?_); refine goesL_ (some 54) rfl rfl Tryd.func8 (by kernel_rfl) rfl #[.string x3_1, .int .i64 x5_2, .int .i64 ((rdOf ByteArray.empty l0 x6_2).size : Int)] rfl (by (try simp only [List.map_toArray, List.map_cons, List.map_nil]); first | done | rfl | (simp only [List.length_drop, List.length_take]; rfl)) ?_; (with_reducible refine (pad_Get.calls x3_1 x5_2 ((rdOf ByteArray.empty l0 x6_2).size : Int) t151 t152 t153 _ A15.out).mono ?_); rintro e w23 ⟨rfl, hb⟩; refine ⟨_, rfl, ?_⟩; have n0_ := Aside0.mk (below_step (by repeat (first | (with_reducible first | exact HB.out | apply below_alloc | apply pw_below_drewN | apply below_drew1) | exact HB.out)) hb); clear HB; have HB := n0_; clear n0_; (try clear hb); (try clear hb2); (try clear hk); (try clear hi); have p154 : 0 ≤ (x6_2 : Int) := of_decide_eq_true (by first | (with_reducible assumption) | assumption); have q154 : x6_2 < (l0.length : Int) := of_decide_eq_true (by first | (with_reducible assumption) | assumption); obtain ⟨ad154, e154, hx154_0⟩ := Kd.at_string HR0.out x6_2 p154 q154; obtain rfl : ad150 = ad154 := (by injection e154); replace hx154_0 := (HB.out.cell (World.block_lt_of_cell? w _ hx154_0)).trans hx154_0; replace p154 := eq_true p154; replace q154 := eq_true q154))
                    go_ret
                    exact ⟨by first | rfl | (simp [errW_none, errW_some] <;> rfl) | (simp [*, errW_none, errW_some] <;> rfl), by repeat (first | (with_reducible first | exact HB.out | apply below_alloc | apply pw_below_drewN | apply below_drew1) | exact HB.out)⟩
                · rw [if_neg c14] at H
                  exact absurd H (by simp)
              · rw [if_neg c13] at H
                have c13b0 : decide (x6_2 < (l0.length : Int)) = false := decide_eq_false c13
                clear c13
                replace H := Option.bind_eq_some_iff.mp H
                obtain ⟨⟨t156, t157, t158⟩, A240, H⟩ := H
                replace H : ((pad_Get.f x3_1 0 (-1)).bind fun bt159 => (if x5_2 = (x3_1.size : Int) then ((gripsacklaw1_Err.f t158).bind fun t162 => (if t162 = 1 then ((gripsacklaw1_Err.f bt159.2.2).bind fun t163 => (if t163 = 1 then ((gripsacklaw8_awake.f).bind fun t164 => (some t164)) else (some false))) else (some false))) else (some false))) = some r := H
                have A24 := Aside0.mk A240
                clear A240
                replace H := Option.bind_eq_some_iff.mp H
                obtain ⟨⟨t159, t160, t161⟩, A250, H⟩ := H
                replace H : (if x5_2 = (x3_1.size : Int) then ((gripsacklaw1_Err.f t158).bind fun t162 => (if t162 = 1 then ((gripsacklaw1_Err.f t161).bind fun t163 => (if t163 = 1 then ((gripsacklaw8_awake.f).bind fun t164 => (some t164)) else (some false))) else (some false))) else (some false)) = some r := H
                have A25 := Aside0.mk A250
                clear A250
                by_cases c26 : x5_2 = (x3_1.size : Int)
                · rw [if_pos c26] at H
                  have c26b0 : (x5_2 == (x3_1.size : Int)) = true := beq_iff_eq.mpr c26
                  have c26b1 : (x5_2 != (x3_1.size : Int)) = false := bne_eq_false_iff_eq.mpr c26
                  clear c26
                  replace H := Option.bind_eq_some_iff.mp H
                  obtain ⟨t162, A270, H⟩ := H
                  replace H : (if t162 = 1 then ((gripsacklaw1_Err.f t161).bind fun t163 => (if t163 = 1 then ((gripsacklaw8_awake.f).bind fun t164 => (some t164)) else (some false))) else (some false)) = some r := H
                  have A27 := Aside0.mk A270
                  clear A270
                  by_cases c28 : t162 = 1
                  · rw [if_pos c28] at H
                    have c28b0 : (t162 == 1) = true := beq_iff_eq.mpr c28
                    have c28b1 : (t162 != 1) = false := bne_eq_false_iff_eq.mpr c28
                    clear c28
                    replace H := Option.bind_eq_some_iff.mp H
                    obtain ⟨t163, A290, H⟩ := H
                    replace H : (if t163 = 1 then ((gripsacklaw8_awake.f).bind fun t164 => (some t164)) else (some false)) = some r := H
                    have A29 := Aside0.mk A290
                    clear A290
                    by_cases c30 : t163 = 1
                    · rw [if_pos c30] at H
                      have c30b0 : (t163 == 1) = true := beq_iff_eq.mpr c30
                      have c30b1 : (t163 != 1) = false := bne_eq_false_iff_eq.mpr c30
                      clear c30
                      replace H := Option.bind_eq_some_iff.mp H
                      obtain ⟨t164, A310, H⟩ := H
                      replace H : (some t164) = some r := H
                      have A31 := Aside0.mk A310
                      clear A310
                      obtain rfl := Option.some.inj H
                      go_wp2_with (first | ((with_reducible refine gate_callee (f := 8) rfl ?_); refine goesL_ (some 80) rfl rfl Tryd.func8 (by kernel_rfl) rfl #[.string x3_1, .int .i64 (wrap64 ((x3_1.size : Int) + 1)), .int .i64 0] rfl (by (try simp only [List.map_toArray, List.map_cons, List.map_nil]); first | done | rfl | (simp only [List.length_drop, List.length_take]; rfl)) ?_; (with_reducible refine (pad_Get.calls x3_1 (wrap64 ((x3_1.size : Int) + 1)) 0 t156 t157 t158 _ A24.out).mono ?_); rintro e w32 ⟨rfl, hb⟩; refine ⟨_, rfl, ?_⟩; have n0_ := Aside0.mk (below_step (by repeat (first | (with_reducible first | exact HB.out | apply below_alloc | apply pw_below_drewN | apply below_drew1) | exact HB.out)) hb); clear HB; have HB := n0_; clear n0_; (try clear hb); (try clear hb2); (try clear hk); (try clear hi)) | ((with_reducible refine gate_callee (f := 8) rfl ?_); refine goesL_ (some 86) rfl rfl Tryd.func8 (by kernel_rfl) rfl #[.string x3_1, .int .i64 0, .int .i64 (-1)] rfl (by (try simp only [List.map_toArray, List.map_cons, List.map_nil]); first | done | rfl | (simp only [List.length_drop, List.length_take]; rfl)) ?_; (with_reducible refine (pad_Get.calls x3_1 0 (-1) t159 t160 t161 _ A25.out).mono ?_); rintro e w33 ⟨rfl, hb⟩; refine ⟨_, rfl, ?_⟩; have n0_ := Aside0.mk (below_step (by repeat (first | (with_reducible first | exact HB.out | apply below_alloc | apply pw_below_drewN | apply below_drew1) | exact HB.out)) hb); clear HB; have HB := n0_; clear n0_; (try clear hb); (try clear hb2); (try clear hk); (try clear hi)) | (go_at_call 14; (with_reducible refine (gripsacklaw1_Err.calls t158 t162 _ A27.out).mono ?_); rintro e w' ⟨rfl, ⟨nd, rfl⟩⟩) | (go_at_call 14; (with_reducible refine (gripsacklaw1_Err.calls t161 t163 _ A29.out).mono ?_); rintro e w' ⟨rfl, ⟨nd, rfl⟩⟩) | (go_at_call 7; (with_reducible refine (gripsacklaw8_awake.calls  t164 _ A31.out).mono ?_); rintro e w34 ⟨rfl, hb⟩; have n0_ := Aside0.mk (below_step (by repeat (first | (with_reducible first | exact HB.out | apply below_alloc | apply pw_below_drewN | apply below_drew1) | exact HB.out)) hb); clear HB; have HB := n0_; clear n0_; (try clear hb); (try clear hb2); (try clear hk); (try clear hi)))
                      go_ret
                      exact ⟨by first | rfl | (simp [errW_none, errW_some] <;> rfl) | (simp [*, errW_none, errW_some] <;> rfl), by repeat (first | (with_reducible first | exact HB.out | apply below_alloc | apply pw_below_drewN | apply below_drew1) | exact HB.out)⟩
                    · rw [if_neg c30] at H
                      have c30b0 : (t163 == 1) = false := beq_eq_false_iff_ne.mpr c30
                      have c30b1 : (t163 != 1) = true := bne_iff_ne.mpr c30
                      obtain rfl := Option.some.inj H
                      go_wp2_with (first | ((with_reducible refine gate_callee (f := 8) rfl ?_); refine goesL_ (some 80) rfl rfl Tryd.func8 (by kernel_rfl) rfl #[.string x3_1, .int .i64 (wrap64 ((x3_1.size : Int) + 1)), .int .i64 0] rfl (by (try simp only [List.map_toArray, List.map_cons, List.map_nil]); first | done | rfl | (simp only [List.length_drop, List.length_take]; rfl)) ?_; (with_reducible refine (pad_Get.calls x3_1 (wrap64 ((x3_1.size : Int) + 1)) 0 t156 t157 t158 _ A24.out).mono ?_); rintro e w35 ⟨rfl, hb⟩; refine ⟨_, rfl, ?_⟩; have n0_ := Aside0.mk (below_step (by repeat (first | (with_reducible first | exact HB.out | apply below_alloc | apply pw_below_drewN | apply below_drew1) | exact HB.out)) hb); clear HB; have HB := n0_; clear n0_; (try clear hb); (try clear hb2); (try clear hk); (try clear hi)) | ((with_reducible refine gate_callee (f := 8) rfl ?_); refine goesL_ (some 86) rfl rfl Tryd.func8 (by kernel_rfl) rfl #[.string x3_1, .int .i64 0, .int .i64 (-1)] rfl (by (try simp only [List.map_toArray, List.map_cons, List.map_nil]); first | done | rfl | (simp only [List.length_drop, List.length_take]; rfl)) ?_; (with_reducible refine (pad_Get.calls x3_1 0 (-1) t159 t160 t161 _ A25.out).mono ?_); rintro e w36 ⟨rfl, hb⟩; refine ⟨_, rfl, ?_⟩; have n0_ := Aside0.mk (below_step (by repeat (first | (with_reducible first | exact HB.out | apply below_alloc | apply pw_below_drewN | apply below_drew1) | exact HB.out)) hb); clear HB; have HB := n0_; clear n0_; (try clear hb); (try clear hb2); (try clear hk); (try clear hi)) | (go_at_call 14; (with_reducible refine (gripsacklaw1_Err.calls t158 t162 _ A27.out).mono ?_); rintro e w' ⟨rfl, ⟨nd, rfl⟩⟩) | (go_at_call 14; (with_reducible refine (gripsacklaw1_Err.calls t161 t163 _ A29.out).mono ?_); rintro e w' ⟨rfl, ⟨nd, rfl⟩⟩))
                      go_ret
                      exact ⟨by first | rfl | (simp [errW_none, errW_some] <;> rfl) | (simp [*, errW_none, errW_some] <;> rfl), by repeat (first | (with_reducible first | exact HB.out | apply below_alloc | apply pw_below_drewN | apply below_drew1) | exact HB.out)⟩
                  · rw [if_neg c28] at H
                    have c28b0 : (t162 == 1) = false := beq_eq_false_iff_ne.mpr c28
                    have c28b1 : (t162 != 1) = true := bne_iff_ne.mpr c28
                    obtain rfl := Option.some.inj H
                    go_wp2_with (first | ((with_reducible refine gate_callee (f := 8) rfl ?_); refine goesL_ (some 80) rfl rfl Tryd.func8 (by kernel_rfl) rfl #[.string x3_1, .int .i64 (wrap64 ((x3_1.size : Int) + 1)), .int .i64 0] rfl (by (try simp only [List.map_toArray, List.map_cons, List.map_nil]); first | done | rfl | (simp only [List.length_drop, List.length_take]; rfl)) ?_; (with_reducible refine (pad_Get.calls x3_1 (wrap64 ((x3_1.size : Int) + 1)) 0 t156 t157 t158 _ A24.out).mono ?_); rintro e w37 ⟨rfl, hb⟩; refine ⟨_, rfl, ?_⟩; have n0_ := Aside0.mk (below_step (by repeat (first | (with_reducible first | exact HB.out | apply below_alloc | apply pw_below_drewN | apply below_drew1) | exact HB.out)) hb); clear HB; have HB := n0_; clear n0_; (try clear hb); (try clear hb2); (try clear hk); (try clear hi)) | ((with_reducible refine gate_callee (f := 8) rfl ?_); refine goesL_ (some 86) rfl rfl Tryd.func8 (by kernel_rfl) rfl #[.string x3_1, .int .i64 0, .int .i64 (-1)] rfl (by (try simp only [List.map_toArray, List.map_cons, List.map_nil]); first | done | rfl | (simp only [List.length_drop, List.length_take]; rfl)) ?_; (with_reducible refine (pad_Get.calls x3_1 0 (-1) t159 t160 t161 _ A25.out).mono ?_); rintro e w38 ⟨rfl, hb⟩; refine ⟨_, rfl, ?_⟩; have n0_ := Aside0.mk (below_step (by repeat (first | (with_reducible first | exact HB.out | apply below_alloc | apply pw_below_drewN | apply below_drew1) | exact HB.out)) hb); clear HB; have HB := n0_; clear n0_; (try clear hb); (try clear hb2); (try clear hk); (try clear hi)) | (go_at_call 14; (with_reducible refine (gripsacklaw1_Err.calls t158 t162 _ A27.out).mono ?_); rintro e w' ⟨rfl, ⟨nd, rfl⟩⟩))
                    go_ret
                    exact ⟨by first | rfl | (simp [errW_none, errW_some] <;> rfl) | (simp [*, errW_none, errW_some] <;> rfl), by repeat (first | (with_reducible first | exact HB.out | apply below_alloc | apply pw_below_drewN | apply below_drew1) | exact HB.out)⟩
                · rw [if_neg c26] at H
                  have c26b0 : (x5_2 == (x3_1.size : Int)) = false := beq_eq_false_iff_ne.mpr c26
                  have c26b1 : (x5_2 != (x3_1.size : Int)) = true := bne_iff_ne.mpr c26
                  obtain rfl := Option.some.inj H
                  go_wp2_with (first | ((with_reducible refine gate_callee (f := 8) rfl ?_); refine goesL_ (some 80) rfl rfl Tryd.func8 (by kernel_rfl) rfl #[.string x3_1, .int .i64 (wrap64 ((x3_1.size : Int) + 1)), .int .i64 0] rfl (by (try simp only [List.map_toArray, List.map_cons, List.map_nil]); first | done | rfl | (simp only [List.length_drop, List.length_take]; rfl)) ?_; (with_reducible refine (pad_Get.calls x3_1 (wrap64 ((x3_1.size : Int) + 1)) 0 t156 t157 t158 _ A24.out).mono ?_); rintro e w39 ⟨rfl, hb⟩; refine ⟨_, rfl, ?_⟩; have n0_ := Aside0.mk (below_step (by repeat (first | (with_reducible first | exact HB.out | apply below_alloc | apply pw_below_drewN | apply below_drew1) | exact HB.out)) hb); clear HB; have HB := n0_; clear n0_; (try clear hb); (try clear hb2); (try clear hk); (try clear hi)) | ((with_reducible refine gate_callee (f := 8) rfl ?_); refine goesL_ (some 86) rfl rfl Tryd.func8 (by kernel_rfl) rfl #[.string x3_1, .int .i64 0, .int .i64 (-1)] rfl (by (try simp only [List.map_toArray, List.map_cons, List.map_nil]); first | done | rfl | (simp only [List.length_drop, List.length_take]; rfl)) ?_; (with_reducible refine (pad_Get.calls x3_1 0 (-1) t159 t160 t161 _ A25.out).mono ?_); rintro e w40 ⟨rfl, hb⟩; refine ⟨_, rfl, ?_⟩; have n0_ := Aside0.mk (below_step (by repeat (first | (with_reducible first | exact HB.out | apply below_alloc | apply pw_below_drewN | apply below_drew1) | exact HB.out)) hb); clear HB; have HB := n0_; clear n0_; (try clear hb); (try clear hb2); (try clear hk); (try clear hi)))
                  go_ret
                  exact ⟨by first | rfl | (simp [errW_none, errW_some] <;> rfl) | (simp [*, errW_none, errW_some] <;> rfl), by repeat (first | (with_reducible first | exact HB.out | apply below_alloc | apply pw_below_drewN | apply below_drew1) | exact HB.out)⟩

end Go.Proofs.YtofcgjialejdjaaDoor.PPad
