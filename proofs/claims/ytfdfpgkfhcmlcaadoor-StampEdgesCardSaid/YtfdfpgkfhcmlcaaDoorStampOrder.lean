/- StampOrder: the walk. -/
import Derived.Test.YtfdfpgkfhcmlcaaDoorStampCmp
import Derived.Test.YtfdfpgkfhcmlcaaDoorStampRef
set_option linter.unusedVariables false
set_option linter.unusedSimpArgs false
namespace Go.Proofs.YtfdfpgkfhcmlcaaDoor
open Go.RowKit Go.Proofs.YtfdfpgkfhcmlcaaDoorW.PrintWords Go.Proofs.YtfdfpgkfhcmlcaaDoor.PStN
attribute [local go_sem high] eqAT

theorem wf_i32 {n : Int} (h : (Lit.int .i32 n).wf = true) : -2147483648 ≤ n ∧ n ≤ 2147483647 := by
  simp only [Lit.wf, Bool.and_eq_true, decide_eq_true_eq] at h; exact h
theorem cmp_cases (s n s' n' : Int) : (cmpT s n s' n' = -1 ∧ (s < s' ∨ (s = s' ∧ n < n'))) ∨ (cmpT s n s' n' = 0 ∧ s = s' ∧ n = n') ∨ (cmpT s n s' n' = 1 ∧ (s' < s ∨ (s = s' ∧ n' < n))) := by
  unfold cmpT orC Lib.compareInt
  by_cases h1 : s < s'
  · rw [if_pos h1]; simp [h1]
  · rw [if_neg h1]
    by_cases h2 : s > s'
    · rw [if_pos h2]; simp [h2]
    · rw [if_neg h2]
      have e : s = s' := by omega
      simp only [if_true]
      by_cases h3 : n < n'
      · rw [if_pos h3]; simp [h3, e]
      · rw [if_neg h3]
        by_cases h4 : n > n'
        · rw [if_pos h4]; simp [h4, e]
        · rw [if_neg h4]
          have : n = n' := by omega
          simp [e, this]
theorem cmp_turn (s n s' n' : Int) : cmpT s n s' n' = - cmpT s' n' s n := by
  have h1 := cmp_cases s n s' n'
  have h2 := cmp_cases s' n' s n
  omega
theorem cmp_over (s n s' n' t m : Int) : 0 < cmpT s n s' n' ∨ 0 < cmpT s' n' t m ∨ cmpT s n t m ≤ 0 := by
  have h1 := cmp_cases s n s' n'
  have h2 := cmp_cases s' n' t m
  have h3 := cmp_cases s n t m
  omega
theorem quarter (d : Nat) (hd : d < 1000) : parseT (Lib.decDigits d ++ [46, 50, 53]) = some ((d : Int), 250000000) := by
  have hm : mayT (d : Int) 250000000 = true := may_iffT.2 (by omega)
  have h := parse_back hm
  have e1 : wholeT (d : Int) 250000000 = d := by unfold wholeT; rw [if_neg (by omega)]; simp
  have e2 : partT (d : Int) 250000000 = 250000000 := by unfold partT; rw [if_neg (by omega)]; rfl
  have e3 : fracT 250000000 = [50, 53] := by decide +kernel
  have e4 : textT (d : Int) 250000000 = Lib.decDigits d ++ [46, 50, 53] := by
    unfold textT signT
    rw [e1, e2, e3, if_neg (by omega), if_neg (by decide), List.nil_append]
  rw [e4] at h
  exact h
theorem cmp_is (s n s' n' k : Int) (h : cmpT s n s' n' = k) (w : World) :
    Calls Tryd.prog 17 #[.agg #[.int .i64 s, .int .i64 n], .agg #[.int .i64 s', .int .i64 n']] w fun e w' => e = .returned (.int .i64 k) ∧ Below w.heap.size w w' := by
  subst h; exact cmp_any s n s' n' w
set_option maxHeartbeats 4000000 in
set_option maxRecDepth 100000 in
theorem stampOrder_walk (a b c m n : Int) (w : World) (hG : Good w) (h0 : -2147483648 ≤ a ∧ a ≤ 2147483647) (h1 : -2147483648 ≤ b ∧ b ≤ 2147483647) (h2 : -2147483648 ≤ c ∧ c ≤ 2147483647) (h3 : 0 ≤ m ∧ m ≤ 4294967295) (h4 : 0 ≤ n ∧ n ≤ 4294967295) :
    Calls Tryd.prog 6 #[.int .i32 a, .int .i32 b, .int .i32 c, .int .u32 m, .int .u32 n] w fun e w' => e = .returned (.bool true) ∧ Below w.heap.size w w' := by
  have HG := Aside0.mk hG
  clear hG
  obtain ⟨p, hp⟩ : ∃ p, m % 1000000000 = p := ⟨_, rfl⟩
  obtain ⟨q, hq⟩ : ∃ q, n % 1000000000 = q := ⟨_, rfl⟩
  obtain ⟨d, hd⟩ : ∃ d : Nat, m % 1000 = d := ⟨(m % 1000).toNat, by omega⟩
  have hd2 : d < 1000 := by omega
  have hqr := quarter d hd2
  have hdl : (Lib.decDigits d).length ≤ 20 := by rw [Lib.decDigits_length]; exact Lib.nDigits_le20 d (by omega)
  obtain ⟨ds, hds⟩ : ∃ ds, Lib.decDigits d = ds := ⟨_, rfl⟩
  rw [hds] at hqr hdl
  obtain ⟨xs, hxs⟩ : ∃ xs, ds ++ [46, 50, 53] = xs := ⟨_, rfl⟩
  rw [hxs] at hqr
  have hxl : xs.length ≤ 30 := by rw [← hxs]; simp; omega
  have a1 := fun W => str_add (P := Tryd.prog) (s := mkS ds) (t := ⟨#[46, 50, 53]⟩) (a := ds) (b := [46, 50, 53]) rfl rfl hxs (by omega) W
  have HDG := Aside0.mk (show gripsackref1_Digits.f 18 (d : Int) = some (mkS ds) by rw [digits_f _ 18 (by omega) (by omega) (by omega), num_itoa (by omega), Int.toNat_natCast, hds])
  have HQ := Aside0.mk hqr
  obtain ⟨k, hk⟩ : ∃ k, cmpT a p b q = k := ⟨_, rfl⟩
  obtain ⟨k', hk'⟩ : ∃ k', cmpT b q a p = k' := ⟨_, rfl⟩
  obtain ⟨k2, hk2⟩ : ∃ k2, cmpT b q c 5 = k2 := ⟨_, rfl⟩
  obtain ⟨k3, hk3⟩ : ∃ k3, cmpT a p c 5 = k3 := ⟨_, rfl⟩
  have htn := cmp_turn a p b q
  have hov := cmp_over a p b q c 5
  have hcs := cmp_cases a p b q
  have hcs2 := cmp_cases b q c 5
  have hcs3 := cmp_cases a p c 5
  rw [hk, hk'] at htn
  rw [hk, hk2, hk3] at hov
  rw [hk] at hcs
  rw [hk2] at hcs2
  rw [hk3] at hcs3
  have hneg : IntKind.i64.wrap (-k') = k := by rw [IntKind.wrap_i64]; omega
  have HK := Aside0.mk hk
  have HK' := Aside0.mk hk'
  have HK2 := Aside0.mk hk2
  have HK3 := Aside0.mk hk3
  clear hk hk' hk2 hk3 hqr hxs hds htn
  go_enter Tryd.func6, Tryd.ntmps6
  go_wp2_with fail
  have gA := blk_alloc (blk_alloc (heap_alloc_new w (.cells #[.int .i64 a, .int .i64 p] 24)) (.cells #[.int .i64 b, .int .i64 q] 24)) (.cells #[.int .i64 c, .int .i64 5] 24)
  have gB := blk_alloc (heap_alloc_new (w.alloc (.cells #[.int .i64 a, .int .i64 p] 24)) (.cells #[.int .i64 b, .int .i64 q] 24)) (.cells #[.int .i64 c, .int .i64 5] 24)
  have gC := heap_alloc_new ((w.alloc (.cells #[.int .i64 a, .int .i64 p] 24)).alloc (.cells #[.int .i64 b, .int .i64 q] 24)) (.cells #[.int .i64 c, .int .i64 5] 24)
  have HB3 := Aside0.mk (below_alloc (below_alloc (below_alloc (Below.refl w.heap.size w) (.cells #[.int .i64 a, .int .i64 p] 24)) (.cells #[.int .i64 b, .int .i64 q] 24)) (.cells #[.int .i64 c, .int .i64 5] 24))
  rw [show (w.alloc (.cells #[.int .i64 a, .int .i64 p] 24)).heap.size = w.heap.size + 1 by simp] at gB
  rw [show ((w.alloc (.cells #[.int .i64 a, .int .i64 p] 24)).alloc (.cells #[.int .i64 b, .int .i64 q] 24)).heap.size = w.heap.size + 1 + 1 by simp] at gC
  generalize ((w.alloc (.cells #[.int .i64 a, .int .i64 p] 24)).alloc (.cells #[.int .i64 b, .int .i64 q] 24)).alloc (.cells #[.int .i64 c, .int .i64 5] 24) = w3 at gA gB gC HB3 ⊢
  refine (cmp_is a p b q k HK.out w3).mono ?_
  rintro e w4 ⟨rfl, hb4⟩
  have HB4 := Aside0.mk (below_next HB3.out hb4)
  have gA4 := (hb4.block _ (blk_lt gA)).trans gA
  have gB4 := (hb4.block _ (blk_lt gB)).trans gB
  have gC4 := (hb4.block _ (blk_lt gC)).trans gC
  clear hb4 gA gB gC
  go_wp2_with fail
  rw [hd]
  refine (gripsackref1_Digits.calls 18 _ _ w4 HDG.out).mono ?_
  rintro e w5 ⟨rfl, hb5⟩
  have HB5 := Aside0.mk (below_next HB4.out hb5)
  have gA5 := (hb5.block _ (blk_lt gA4)).trans gA4
  have gB5 := (hb5.block _ (blk_lt gB4)).trans gB4
  have gC5 := (hb5.block _ (blk_lt gC4)).trans gC4
  clear hb5 gA4 gB4 gC4
  go_wp2_with fail
  refine (parse_is xs _ HQ.out w5 (HG.out.below HB5.out) (by omega)).mono ?_
  rintro e w6 ⟨rfl, hb6⟩
  simp only [gotT]
  have HB6 := Aside0.mk (below_alloc (below_next HB5.out hb6) (.cells #[.int .i64 (d : Int), .int .i64 250000000] 24))
  have gA6 := blk_alloc ((hb6.block _ (blk_lt gA5)).trans gA5) (.cells #[.int .i64 (d : Int), .int .i64 250000000] 24)
  have gB6 := blk_alloc ((hb6.block _ (blk_lt gB5)).trans gB5) (.cells #[.int .i64 (d : Int), .int .i64 250000000] 24)
  have gC6 := blk_alloc ((hb6.block _ (blk_lt gC5)).trans gC5) (.cells #[.int .i64 (d : Int), .int .i64 250000000] 24)
  have gD6 := heap_alloc_new w6 (.cells #[.int .i64 (d : Int), .int .i64 250000000] 24)
  clear hb6 gA5 gB5 gC5
  obtain ⟨nD, hnD⟩ : ∃ nD, w6.heap.size = nD := ⟨_, rfl⟩
  rw [hnD] at gD6
  have KP := Aside0.mk (fun W (hb : Below (w6.alloc (.cells #[.int .i64 (d : Int), .int .i64 250000000] 24)).heap.size (w6.alloc (.cells #[.int .i64 (d : Int), .int .i64 250000000] 24)) W) => show W.cell? ⟨w.heap.size, 0, none⟩ = some (.int .i64 a) ∧ W.cell? ⟨w.heap.size, 1, none⟩ = some (.int .i64 p) ∧ W.cell? ⟨w.heap.size + 1, 0, none⟩ = some (.int .i64 b) ∧ W.cell? ⟨w.heap.size + 1, 1, none⟩ = some (.int .i64 q) ∧ W.cell? ⟨w.heap.size + 1 + 1, 0, none⟩ = some (.int .i64 c) ∧ W.cell? ⟨w.heap.size + 1 + 1, 1, none⟩ = some (.int .i64 5) ∧ W.cell? ⟨nD, 0, none⟩ = some (.int .i64 (d : Int)) ∧ W.cell? ⟨nD, 1, none⟩ = some (.int .i64 250000000) from
    ⟨(hb.cell (p := ⟨_, 0, none⟩) (blk_lt gA6)).trans (blk_cell gA6 0), (hb.cell (p := ⟨_, 1, none⟩) (blk_lt gA6)).trans (blk_cell gA6 1), (hb.cell (p := ⟨_, 0, none⟩) (blk_lt gB6)).trans (blk_cell gB6 0), (hb.cell (p := ⟨_, 1, none⟩) (blk_lt gB6)).trans (blk_cell gB6 1), (hb.cell (p := ⟨_, 0, none⟩) (blk_lt gC6)).trans (blk_cell gC6 0), (hb.cell (p := ⟨_, 1, none⟩) (blk_lt gC6)).trans (blk_cell gC6 1), (hb.cell (p := ⟨_, 0, none⟩) (blk_lt gD6)).trans (blk_cell gD6 0), (hb.cell (p := ⟨_, 1, none⟩) (blk_lt gD6)).trans (blk_cell gD6 1)⟩)
  have hcell := KP.out _ (Below.refl _ _)
  have HR0 := Aside0.mk (Below.refl (w6.alloc (.cells #[.int .i64 (d : Int), .int .i64 250000000] 24)).heap.size (w6.alloc (.cells #[.int .i64 (d : Int), .int .i64 250000000] 24)))
  clear gA6 gB6 gC6 gD6
  go_wp2_with fail
  generalize w6.alloc (.cells #[.int .i64 (d : Int), .int .i64 250000000] 24) = w7 at HB6 KP hcell HR0 ⊢
  refine (cmp_is b q a p k' HK'.out w7).mono ?_
  rintro e w8 ⟨rfl, hb8⟩
  obtain ⟨u0, u1, u2, u3, u4, u5, u6, u7⟩ := KP.out _ hb8
  have HB8 := Aside0.mk hb8
  clear hb8 hcell hnD HK HK'
  rcases hcs with ⟨rfl, hne⟩ | ⟨rfl, rfl, rfl⟩ | ⟨rfl, hne⟩
  · have hqe : (a == b && p == q) = false := by
      by_cases e1 : a = b
      · have e2 : ¬ p = q := by omega
        simp [e1, e2]
      · simp [e1]
    clear hne
    by_cases hk2 : 0 < k2
    · clear hov hcs3
      go_wp2_with (first
        | (go_at_call 17; refine (cmp_is _ _ _ _ _ HK2.out _).mono ?_; rintro e w9 ⟨rfl, hb9⟩; have HB9 := Aside0.mk (below_next HB8.out hb9); clear u0 u1 u2 u3 u4 u5 u6 u7; obtain ⟨u0, u1, u2, u3, u4, u5, u6, u7⟩ := KP.out _ HB9.out)
        | (go_at_call 12; refine (awake_any _ (HG.out.below (below_next HB6.out HB9.out))).mono ?_; rintro e wz ⟨rfl, hbz⟩))
      go_ret
      exact ⟨rfl, below_next (below_next HB6.out HB9.out) hbz⟩
    · have hk3 : k3 ≤ 0 := by omega
      clear hov
      go_wp2_with (first
        | (go_at_call 17; have hh := HB9; refine (cmp_is _ _ _ _ _ HK3.out _).mono ?_; rintro e w10 ⟨rfl, hb10⟩; have HB10 := Aside0.mk (below_next HB9.out hb10); clear u0 u1 u2 u3 u4 u5 u6 u7; obtain ⟨u0, u1, u2, u3, u4, u5, u6, u7⟩ := KP.out _ HB10.out)
        | (go_at_call 17; refine (cmp_is _ _ _ _ _ HK2.out _).mono ?_; rintro e w9 ⟨rfl, hb9⟩; have HB9 := Aside0.mk (below_next HB8.out hb9); clear u0 u1 u2 u3 u4 u5 u6 u7; obtain ⟨u0, u1, u2, u3, u4, u5, u6, u7⟩ := KP.out _ HB9.out)
        | (go_at_call 12; refine (awake_any _ (HG.out.below (below_next HB6.out HB10.out))).mono ?_; rintro e wz ⟨rfl, hbz⟩))
      go_ret
      exact ⟨rfl, below_next (below_next HB6.out HB10.out) hbz⟩
  · by_cases hk2 : 0 < k2
    · clear hov hcs3
      go_wp2_with (first
        | (go_at_call 17; refine (cmp_is _ _ _ _ _ HK2.out _).mono ?_; rintro e w9 ⟨rfl, hb9⟩; have HB9 := Aside0.mk (below_next HB8.out hb9); clear u0 u1 u2 u3 u4 u5 u6 u7; obtain ⟨u0, u1, u2, u3, u4, u5, u6, u7⟩ := KP.out _ HB9.out)
        | (go_at_call 12; refine (awake_any _ (HG.out.below (below_next HB6.out HB9.out))).mono ?_; rintro e wz ⟨rfl, hbz⟩))
      go_ret
      exact ⟨rfl, below_next (below_next HB6.out HB9.out) hbz⟩
    · have hk3 : k3 ≤ 0 := by omega
      clear hov
      go_wp2_with (first
        | (go_at_call 17; have hh := HB9; refine (cmp_is _ _ _ _ _ HK3.out _).mono ?_; rintro e w10 ⟨rfl, hb10⟩; have HB10 := Aside0.mk (below_next HB9.out hb10); clear u0 u1 u2 u3 u4 u5 u6 u7; obtain ⟨u0, u1, u2, u3, u4, u5, u6, u7⟩ := KP.out _ HB10.out)
        | (go_at_call 17; refine (cmp_is _ _ _ _ _ HK2.out _).mono ?_; rintro e w9 ⟨rfl, hb9⟩; have HB9 := Aside0.mk (below_next HB8.out hb9); clear u0 u1 u2 u3 u4 u5 u6 u7; obtain ⟨u0, u1, u2, u3, u4, u5, u6, u7⟩ := KP.out _ HB9.out)
        | (go_at_call 12; refine (awake_any _ (HG.out.below (below_next HB6.out HB10.out))).mono ?_; rintro e wz ⟨rfl, hbz⟩))
      go_ret
      exact ⟨rfl, below_next (below_next HB6.out HB10.out) hbz⟩
  · have hqe : (a == b && p == q) = false := by
      by_cases e1 : a = b
      · have e2 : ¬ p = q := by omega
        simp [e1, e2]
      · simp [e1]
    clear hne hov hcs2 hcs3
    go_wp2_with (first
      | (go_at_call 12; refine (awake_any _ (HG.out.below (below_next HB6.out HB8.out))).mono ?_; rintro e wz ⟨rfl, hbz⟩))
    go_ret
    exact ⟨rfl, below_next (below_next HB6.out HB8.out) hbz⟩
end Go.Proofs.YtfdfpgkfhcmlcaaDoor
