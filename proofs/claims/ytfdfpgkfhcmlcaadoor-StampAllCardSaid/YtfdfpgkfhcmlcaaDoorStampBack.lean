/- StampBack: the walk. -/
import Derived.Test.YtfdfpgkfhcmlcaaDoorStampAwake
set_option linter.unusedVariables false
set_option linter.unusedSimpArgs false
namespace Go.Proofs.YtfdfpgkfhcmlcaaDoor
open Go.RowKit Go.Proofs.YtfdfpgkfhcmlcaaDoorW.PrintWords
attribute [local go_sem high] eqAT

theorem frac_ne {r : Nat} (h : r < 1000000000) (h0 : r ≠ 0) : fracT r ≠ [] := by
  intro e
  obtain ⟨p1, _⟩ := pad_frac h
  rw [e] at p1
  have h1 := padded_read h
  rw [← p1, show Lib.atoiAll (padT []) = .ok 0 from by decide +kernel] at h1
  injection h1 with h1
  omega
theorem text_no {s n : Int} (c : UInt8) (hc : c.toNat < 45 ∨ 57 < c.toNat) : c ∉ textT s n := by
  unfold textT
  intro h
  rcases List.mem_append.1 h with h | h
  · rcases List.mem_append.1 h with h | h
    · unfold signT at h
      split at h
      · simp at h; subst h; revert hc; decide
      · simp at h
    · exact dec_no (by omega) h
  · split at h
    · simp at h
    · rcases List.mem_cons.1 h with h | h
      · subst h; revert hc; decide
      · exact frac_no (by omega) h
/-- A text's last byte is a digit. -/
theorem text_last {s n : Int} (hm : mayT s n = true) (t : List UInt8) : textT s n ≠ t ++ [46] := by
  have hp := part_lt hm
  intro e
  have e1 := congrArg List.getLast? e
  rw [List.getLast?_append, List.getLast?_singleton] at e1
  simp only [Option.some_or] at e1
  unfold textT at e1
  have hdl : ∃ d, (Lib.decDigits (wholeT s n)).getLast? = some d ∧ 48 ≤ d.toNat := by
    cases hd : (Lib.decDigits (wholeT s n)).getLast? with
    | none => exact absurd (List.getLast?_eq_none_iff.1 hd) (num_ne _)
    | some d => exact ⟨d, rfl, (num_digit _ d (List.mem_of_getLast? hd)).1⟩
  obtain ⟨d, hd, hd48⟩ := hdl
  by_cases hz : partT s n = 0
  · rw [if_pos hz, List.append_nil, List.getLast?_append, hd] at e1
    simp at e1
    subst e1
    revert hd48; decide
  · rw [if_neg hz] at e1
    have hne := frac_ne hp hz
    cases hf : (fracT (partT s n)).getLast? with
    | none => exact hne (List.getLast?_eq_none_iff.1 hf)
    | some x =>
      rw [List.getLast?_append, List.getLast?_cons, hf] at e1
      simp at e1
      subst e1
      exact frac_no (r := partT s n) (c := 46) (by decide) (List.mem_of_getLast? hf)
/-- A text's first byte is no 0 unless it alone stands ahead of a point, or alone. -/
theorem text_zero {s n s' n' : Int} (hm' : mayT s' n' = true) : textT s' n' ≠ 48 :: textT s n := by
  intro e
  have h45 : (45 : UInt8) ∉ Lib.decDigits (wholeT s' n') := dec_no (by decide)
  -- the second byte of the right is a sign or a digit
  obtain ⟨c, r, hr, hc⟩ : ∃ c r, textT s n = c :: r ∧ (c = 45 ∨ 48 ≤ c.toNat) := by
    unfold textT signT
    by_cases hs : s < 0
    · rw [if_pos hs]
      exact ⟨45, _, rfl, .inl rfl⟩
    · rw [if_neg hs, List.nil_append]
      cases hd : Lib.decDigits (wholeT s n) with
      | nil => exact absurd hd (num_ne _)
      | cons b q => exact ⟨b, _, rfl, .inr (num_digit _ b (by rw [hd]; simp)).1⟩
  rw [hr] at e
  unfold textT signT at e
  by_cases hs : s' < 0
  · rw [if_pos hs] at e
    simp at e
  · rw [if_neg hs, List.nil_append] at e
    by_cases hw : wholeT s' n' = 0
    · have hd0 : Lib.decDigits 0 = [48] := by decide +kernel
      rw [hw, hd0] at e
      by_cases hz : partT s' n' = 0
      · rw [if_pos hz] at e
        simp at e
      · rw [if_neg hz] at e
        simp at e
        rcases hc with hc | hc
        · rw [← e.1] at hc; revert hc; decide
        · rw [← e.1] at hc; revert hc; decide
    · obtain ⟨b, q, hb, hb49⟩ := num_head _ (by omega : 0 < wholeT s' n')
      rw [hb] at e
      simp at e
      rw [e.1] at hb49
      revert hb49; decide
theorem none_of (x : List UInt8) (h : ∀ s n, mayT s n = true → textT s n ≠ x) : parseT x = none := by
  cases hp : parseT x with
  | none => rfl
  | some t =>
    obtain ⟨s, n⟩ := t
    obtain ⟨h1, h2⟩ := parse_sound hp
    exact absurd h2 (h s n h1)
theorem back_plus (s n : Int) : parseT (43 :: textT s n) = none := none_of _ fun s' n' hm e => text_no (s := s') (n := n') 43 (by decide) (by rw [e]; simp)
theorem back_more (s n : Int) : parseT (textT s n ++ [32]) = none := none_of _ fun s' n' hm e => text_no (s := s') (n := n') 32 (by decide) (by rw [e]; simp)
theorem back_dot (s n : Int) : parseT (textT s n ++ [46]) = none := none_of _ fun s' n' hm e => text_last hm _ e
theorem back_zero (s n : Int) : parseT (48 :: textT s n) = none := none_of _ fun s' n' hm e => text_zero hm e
set_option maxHeartbeats 4000000 in
set_option maxRecDepth 100000 in
theorem stampBack_walk (sec nano at_ by_ : Int) (w : World) (hG : Good w) (h0 : -9223372036854775808 ≤ sec ∧ sec ≤ 9223372036854775807) (h1 : 0 ≤ nano ∧ nano ≤ 4294967295) (h2 : 0 ≤ at_ ∧ at_ ≤ 255) (h3 : 0 ≤ by_ ∧ by_ ≤ 255) :
    Calls Tryd.prog 3 #[.int .i64 sec, .int .u32 nano, .int .u8 at_, .int .u8 by_] w fun e w' => e = .returned (.bool true) ∧ Below w.heap.size w w' := by
  have HG := Aside0.mk hG
  clear hG
  have hmt : Int.tmod sec 1099511627777 < 1099511627777 ∧ -1099511627777 < Int.tmod sec 1099511627777 := by
    constructor
    · exact Int.tmod_lt_of_pos _ (by decide)
    · have := Int.tmod_lt_of_pos (-sec) (b := 1099511627777) (by decide)
      rw [Int.neg_tmod] at this
      omega
  obtain ⟨s, hs⟩ : ∃ s, Int.tmod sec 1099511627777 = s := ⟨_, rfl⟩
  obtain ⟨n, hn⟩ : ∃ n, nano % 1000000000 = n := ⟨_, rfl⟩
  rw [hs] at hmt
  have hm : mayT s n = true := may_iffT.2 (by omega)
  have hpb := parse_back hm
  have htl := text_len hm
  have hpl := back_plus s n
  have hdt := back_dot s n
  have hmo := back_more s n
  have hze := back_zero s n
  obtain ⟨T, hT⟩ : ∃ T, textT s n = T := ⟨_, rfl⟩
  rw [hT] at hpb htl hpl hdt hmo hze
  have a1 := fun W => str_add (P := Tryd.prog) (s := ⟨#[43]⟩) (t := mkS T) (a := [43]) (b := T) (c := 43 :: T) rfl rfl rfl (by simp; omega) W
  have a2 := fun W => str_add (P := Tryd.prog) (s := mkS T) (t := ⟨#[46]⟩) (a := T) (b := [46]) (c := T ++ [46]) rfl rfl rfl (by simp; omega) W
  have a3 := fun W => str_add (P := Tryd.prog) (s := mkS T) (t := ⟨#[32]⟩) (a := T) (b := [32]) (c := T ++ [32]) rfl rfl rfl (by simp; omega) W
  have a4 := fun W => str_add (P := Tryd.prog) (s := ⟨#[48]⟩) (t := mkS T) (a := [48]) (b := T) (c := 48 :: T) rfl rfl rfl (by simp; omega) W
  obtain ⟨x1, hx1⟩ : ∃ x, 43 :: T = x := ⟨_, rfl⟩
  obtain ⟨x2, hx2⟩ : ∃ x, T ++ [46] = x := ⟨_, rfl⟩
  obtain ⟨x3, hx3⟩ : ∃ x, T ++ [32] = x := ⟨_, rfl⟩
  obtain ⟨x4, hx4⟩ : ∃ x, 48 :: T = x := ⟨_, rfl⟩
  have l1 : x1.length ≤ 50 := by rw [← hx1]; simp; omega
  have l2 : x2.length ≤ 50 := by rw [← hx2]; simp; omega
  have l3 : x3.length ≤ 50 := by rw [← hx3]; simp; omega
  have l4 : x4.length ≤ 50 := by rw [← hx4]; simp; omega
  rw [hx1] at a1 hpl
  rw [hx2] at a2 hdt
  rw [hx3] at a3 hmo
  rw [hx4] at a4 hze
  have HT := Aside0.mk hT
  have HM := Aside0.mk hm
  have HP := Aside0.mk hpb
  have HP1 := Aside0.mk hpl
  have HP2 := Aside0.mk hdt
  have HP3 := Aside0.mk hmo
  have HP4 := Aside0.mk hze
  have HB0 := Aside0.mk (below_alloc (Below.refl w.heap.size w) (.cells #[.int .i64 s, .int .i64 n] 24))
  have g0 := heap_alloc_new w (.cells #[.int .i64 s, .int .i64 n] 24)
  have hTe : T.isEmpty = false := by cases T with
    | nil => simp at htl
    | cons _ _ => rfl
  clear hx1 hx2 hx3 hx4 hT hm hpb hpl hdt hmo hze
  go_enter Tryd.func3, Tryd.ntmps3
  go_wp2_with fail
  refine (text_any s n _ (HG.out.below HB0.out) HM.out).mono ?_
  rintro e w1 ⟨rfl, hb1⟩
  rw [HT.out]
  have HB1 := Aside0.mk (below_next HB0.out hb1)
  have g1 := (hb1.block _ (blk_lt g0)).trans g0
  clear hb1 g0
  go_wp2_with fail
  refine (parse_is T _ HP.out _ (HG.out.below HB1.out) (by omega)).mono ?_
  rintro e w2 ⟨rfl, hb2⟩
  simp only [gotT]
  have HB2 := Aside0.mk (below_alloc (below_next HB1.out hb2) (.cells #[.int .i64 s, .int .i64 n] 24))
  have g2 := blk_alloc ((hb2.block _ (blk_lt g1)).trans g1) (.cells #[.int .i64 s, .int .i64 n] 24)
  have d0 := blk_cell g2 0
  have d1 := blk_cell g2 1
  clear hb2 g1
  go_wp2_with fail
  refine (parse_is x1 none HP1.out _ (HG.out.below HB2.out) (by omega)).mono ?_
  rintro e w3 ⟨rfl, hb3⟩
  simp only [gotT]
  have HB3 := Aside0.mk (below_alloc (below_next HB2.out hb3) (.cells #[.int .i64 0, .int .i64 0] 24))
  have g3 := blk_alloc ((hb3.block _ (blk_lt g2)).trans g2) (.cells #[.int .i64 0, .int .i64 0] 24)
  clear hb3 g2 d0 d1
  go_wp2_with fail
  refine (parse_is x2 none HP2.out _ (HG.out.below HB3.out) (by omega)).mono ?_
  rintro e w4 ⟨rfl, hb4⟩
  simp only [gotT]
  have HB4 := Aside0.mk (below_alloc (below_next HB3.out hb4) (.cells #[.int .i64 0, .int .i64 0] 24))
  have g4 := blk_alloc ((hb4.block _ (blk_lt g3)).trans g3) (.cells #[.int .i64 0, .int .i64 0] 24)
  clear hb4 g3
  go_wp2_with fail
  refine (parse_is x3 none HP3.out _ (HG.out.below HB4.out) (by omega)).mono ?_
  rintro e w5 ⟨rfl, hb5⟩
  simp only [gotT]
  have HB5 := Aside0.mk (below_alloc (below_next HB4.out hb5) (.cells #[.int .i64 0, .int .i64 0] 24))
  have g5 := blk_alloc ((hb5.block _ (blk_lt g4)).trans g4) (.cells #[.int .i64 0, .int .i64 0] 24)
  clear hb5 g4
  go_wp2_with fail
  refine (parse_is x4 none HP4.out _ (HG.out.below HB5.out) (by omega)).mono ?_
  rintro e w6 ⟨rfl, hb6⟩
  simp only [gotT]
  have HB6 := Aside0.mk (below_alloc (below_next HB5.out hb6) (.cells #[.int .i64 0, .int .i64 0] 24))
  have g6 := blk_alloc ((hb6.block _ (blk_lt g5)).trans g5) (.cells #[.int .i64 0, .int .i64 0] 24)
  clear hb6 g5
  go_wp2_with fail
  generalize hW6 : w6.alloc (.cells #[.int .i64 0, .int .i64 0] 24) = W6 at HB6 g6 ⊢
  obtain ⟨w7, cap, hcv, hb7, hz7, hB7⟩ := conv_world (P := Tryd.prog) W6 9 28 5 (mkS T) Tryd.underlying9 Tryd.underlying28 Tryd.underlying5
  rw [data_mkS] at hB7
  rw [size_mkS] at hcv
  obtain ⟨q, hq⟩ : ∃ q : Nat, at_ % (T.length : Int) = q := ⟨(at_ % (T.length : Int)).toNat, by have := Int.emod_nonneg at_ (b := (T.length : Int)) (by omega); omega⟩
  have hqs : q < T.length := by have := Int.emod_lt_of_pos at_ (b := (T.length : Int)) (by omega); omega
  have hqs' : (q : Int) < (T.length : Int) := by omega
  obtain ⟨bb, hbb⟩ : ∃ bb : UInt8, (bb.toNat : Int) = by_ := ⟨UInt8.ofNat by_.toNat, by simp; omega⟩
  have hci := hB7.cell _ hqs
  have hfi := hB7.free _ hqs
  have hB8 := hB7.set _ hqs bb
  rw [hbb] at hB8
  obtain ⟨t, ht⟩ : ∃ t, T.set q bb = t := ⟨_, rfl⟩
  rw [ht] at hB8
  have htlen : t.length = T.length := by rw [← ht, List.length_set]
  have hbk := hB8.back (P := Tryd.prog) 28 9 5 cap T.length (by omega) Tryd.underlying28 Tryd.underlying5 Tryd.underlying9
  have hb9 : Below W6.heap.size W6 (w7.setCell ⟨W6.heap.size, q, none⟩ (.int .u8 by_)) := hb7.setCell (Nat.le_refl _) _
  have HB9 := Aside0.mk (below_next HB6.out hb9)
  have g9 := (hb9.block _ (blk_lt g6)).trans g6
  have HB8 := Aside0.mk hB8
  obtain ⟨o, ho, hway⟩ : ∃ o, parseT t = o ∧ (t = T ∨ (¬ t = T ∧ o = none) ∨ (¬ t = T ∧ ∃ u v, o = some (u, v) ∧ ¬ (u = s ∧ v = n))) := by
    refine ⟨_, rfl, ?_⟩
    by_cases e : t = T
    · exact .inl e
    · cases hp : parseT t with
      | none => exact .inr (.inl ⟨e, rfl⟩)
      | some z =>
        obtain ⟨u, v⟩ := z
        refine .inr (.inr ⟨e, u, v, rfl, ?_⟩)
        rintro ⟨rfl, rfl⟩
        exact e ((parse_sound hp).2.symm.trans HT.out)
  have HO := Aside0.mk ho
  have htl2 : t.length ≤ 40 := by omega
  clear hb7 hb9 g6 hB7 hB8 ht ho hbb hW6
  rw [hcv]
  go_simp
  go_wp2_with fail
  refine (parse_is t o HO.out _ (HG.out.below HB9.out) (by omega)).mono ?_
  rintro e w10 ⟨rfl, hb10⟩
  have g10 := (hb10.block _ (blk_lt g9)).trans g9
  have HB10 := Aside0.mk (below_next HB9.out hb10)
  have HBY := Aside0.mk (HB8.out.below hb10 HB8.out.lt)
  clear hb10 g9 hcv hci hfi hbk
  rcases hway with e | ⟨e, rfl⟩ | ⟨e, u, v, rfl, huv⟩
  · have ho2 : o = some (s, n) := by rw [← HO.out, e, HP.out]
    subst ho2
    simp only [gotT]
    have hcmp : (t == T) = true := by rw [e]; simp
    have HB11 := Aside0.mk (below_alloc HB10.out (.cells #[.int .i64 s, .int .i64 n] 24))
    have g11 := blk_alloc g10 (.cells #[.int .i64 s, .int .i64 n] 24)
    have d0 := blk_cell g11 0
    have d1 := blk_cell g11 1
    have hbk := (HBY.out.below (below_alloc (Below.refl _ _) (.cells #[.int .i64 s, .int .i64 n] 24)) HBY.out.lt).back (P := Tryd.prog) 28 9 5 cap T.length (by omega) Tryd.underlying28 Tryd.underlying5 Tryd.underlying9
    clear g10 e
    go_wp2_with (go_at_call 12; refine (awake_any _ (HG.out.below HB11.out)).mono ?_; rintro e w12 ⟨rfl, hb12⟩)
    go_ret
    exact ⟨rfl, below_next HB11.out hb12⟩
  · have hcmp : (t == T) = false := beq_eq_false_iff_ne.2 e
    simp only [gotT]
    have HB11 := Aside0.mk (below_alloc HB10.out (.cells #[.int .i64 0, .int .i64 0] 24))
    have g11 := blk_alloc g10 (.cells #[.int .i64 0, .int .i64 0] 24)
    have d0 := blk_cell g11 0
    have d1 := blk_cell g11 1
    have hbk := (HBY.out.below (below_alloc (Below.refl _ _) (.cells #[.int .i64 0, .int .i64 0] 24)) HBY.out.lt).back (P := Tryd.prog) 28 9 5 cap T.length (by omega) Tryd.underlying28 Tryd.underlying5 Tryd.underlying9
    clear g10 e
    go_wp2_with (go_at_call 12; refine (awake_any _ (HG.out.below HB11.out)).mono ?_; rintro e w12 ⟨rfl, hb12⟩)
    go_ret
    exact ⟨rfl, below_next HB11.out hb12⟩
  · have hcmp : (t == T) = false := beq_eq_false_iff_ne.2 e
    simp only [gotT]
    have hne : (u == s && v == n) = false := by
      by_cases h1 : u = s
      · have h2 : ¬ v = n := fun h2 => huv ⟨h1, h2⟩
        simp [h1, h2]
      · simp [h1]
    have HB11 := Aside0.mk (below_alloc HB10.out (.cells #[.int .i64 u, .int .i64 v] 24))
    have g11 := blk_alloc g10 (.cells #[.int .i64 u, .int .i64 v] 24)
    have d0 := blk_cell g11 0
    have d1 := blk_cell g11 1
    have hbk := (HBY.out.below (below_alloc (Below.refl _ _) (.cells #[.int .i64 u, .int .i64 v] 24)) HBY.out.lt).back (P := Tryd.prog) 28 9 5 cap T.length (by omega) Tryd.underlying28 Tryd.underlying5 Tryd.underlying9
    clear g10 e huv
    go_wp2_with (go_at_call 12; refine (awake_any _ (HG.out.below HB11.out)).mono ?_; rintro e w12 ⟨rfl, hb12⟩)
    go_ret
    exact ⟨rfl, below_next HB11.out hb12⟩
end Go.Proofs.YtfdfpgkfhcmlcaaDoor
