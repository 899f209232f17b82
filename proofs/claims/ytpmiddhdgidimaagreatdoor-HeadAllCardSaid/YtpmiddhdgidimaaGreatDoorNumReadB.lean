/- num: ReadBase's closure. -/
import Derived.Test.YtpmiddhdgidimaaGreatDoorNumRead
set_option linter.unusedVariables false
set_option linter.unusedSimpArgs false
namespace Go.Proofs.YtpmiddhdgidimaaGreatDoor
open Go.RowKit Go.Proofs.YtpmiddhdgidimaaGreatDoorW.PrintWords

theorem wrap64_eq (x : Int) : wrap64 x = IntKind.i64.wrap x := by rw [IntKind.wrap_i64]; unfold wrap64; omega
set_option maxHeartbeats 1000000 in
set_option maxRecDepth 100000 in
theorem readBase1 (p : Nat) (s : List UInt8) (w : World) (hp : w.cell? ⟨p, 0, none⟩ = some (.string (mkS s))) (hs : s.length = 8 ∨ s.length = 12) :
    Calls Tryz.prog 83 #[.pointer (some ⟨p, 0, none⟩)] w fun e w' => ReadDone (readBaseT s) e ∧ Below w.heap.size w w' := by
  obtain ⟨W0, cap, hcv, hb0, hz0, hY⟩ := conv_world (P := Tryz.prog) w 9 40 5 (mkS s.tail) Tryz.underlying9 Tryz.underlying40 Tryz.underlying5
  rw [data_mkS] at hY
  rw [size_mkS] at hcv
  have hwd : ((s.length : Int) == 8 || (s.length : Int) == 12) = true := by rcases hs with h | h <;> rw [h] <;> rfl
  have hex : (mkS s).extract 1 s.length = mkS s.tail := by rw [extract_mkS]; cases s <;> simp
  have HY := Aside0.mk hY
  clear hY
  have hl1 : 1 ≤ s.length := by omega
  have hix : ∀ h, (mkS s)[0]'h = s.headD 0 := by
    intro h
    cases s with
    | nil => simp at hl1
    | cons c r => simp [mkS, ByteArray.getElem_eq_getElem_data]
  have hcase : ((((s.headD 0).toNat : Int) == 255) = true ∧ accB s = -1) ∨ ((((s.headD 0).toNat : Int) == 255) = false ∧ accB s = 0) := by
    unfold accB
    by_cases h : s.headD 0 = 255
    · left
      rw [h]
      exact ⟨rfl, rfl⟩
    · right
      have h2 : ¬ ((s.headD 0).toNat = 255) := fun e => h (UInt8.toNat_inj.1 e)
      refine ⟨beq_eq_false_iff_ne.2 (fun e => h2 (by omega)), ?_⟩
      rw [if_neg (by simpa using h)]
  obtain ⟨c0, hc0⟩ : ∃ c0, s.headD 0 = c0 := ⟨_, rfl⟩
  rw [hc0] at hcase hix
  clear hc0
  rcases hcase with ⟨h255, hacc⟩ | ⟨h255, hacc⟩
  · have HACC := Aside0.mk hacc
    clear hacc
    go_enter Tryz.func83, Tryz.ntmps83
    go_wp2_with (first
      | (go_at_call 84; refine (wide_any _ _).mono ?_; rintro e w1 ⟨rfl, hw1⟩; rw [hw1, hwd]; clear hw1)
      | (go_at_call 82; refine (must_true _).mono ?_; rintro e w1 ⟨rfl, hw1⟩; rw [hw1]; clear hw1))
    clear h255 hix
    have h12 : s.tail.length + 1 = s.length := by rw [List.length_tail]; omega
    obtain ⟨t, ht⟩ : ∃ t, s.tail = t := ⟨_, rfl⟩
    rw [ht] at HY hcv hex h12 ⊢
    have HT := Aside0.mk ht
    clear ht
    obtain ⟨g, hg⟩ : ∃ g, w.heap.size = g := ⟨_, rfl⟩
    rw [hg] at HY ⊢
    go_loopw [2, 16] (fun nv iv wr => ∃ (k : Nat) (X : Int), k ≤ t.length ∧ iv = .int .i64 k ∧ nv = .int .i64 X ∧ -9223372036854775808 ≤ X ∧ X ≤ 9223372036854775807 ∧ Aside0 (X = IntKind.i64.wrap (foldB (-1) (t.take k))) ∧ wr = W0) (fun _ iv _ => t.length - (intOf iv).toNat)
    case atStart => exact ⟨0, -1, Nat.zero_le _, rfl, rfl, by decide, by decide, ⟨by rw [List.take_zero]; decide⟩, rfl⟩
    case round =>
      obtain ⟨k, X, hk, rfl, rfl, hX1, hX2, HX, rfl⟩ := hrel
      by_cases hlt : k < t.length
      · have u0 := HY.out.cell k hlt
        obtain ⟨q, hq⟩ : ∃ q : Nat, (t.getD k 0).toNat = q := ⟨_, rfl⟩
        have hq2 : q < 256 := by rw [← hq]; exact UInt8.toNat_lt _
        rw [hq] at u0
        obtain ⟨X2, hX2e⟩ : ∃ X2, IntKind.i64.wrap (IntKind.i64.wrap (X * 256) + q) = X2 := ⟨_, rfl⟩
        have hor : Go.bits .or .i64 (wrap64 (X * 256)) (q : Int) = X2 := by
          rw [wrap64_eq]
          have h8 : ((2 ^ 8 : Nat) : Int) = 256 := by decide
          rw [or_join 8 _ _ (.inr rfl) (by rw [h8, IntKind.wrap_i64]; omega) (by omega) (by omega), hX2e]
        have hr1 : -9223372036854775808 ≤ X2 ∧ X2 ≤ 9223372036854775807 := by rw [← hX2e, IntKind.wrap_i64]; omega
        have HQ := Aside0.mk hq
        have HE := Aside0.mk hX2e
        clear hq hX2e
        go_wp2_with fail
        go_roundw
        case measure => simp [intOf]; omega
        case rel =>
          refine ⟨k + 1, X2, by omega, by go_num, rfl, hr1.1, hr1.2, ⟨?_⟩, trivial⟩
          rw [List.take_succ_eq_append_getElem hlt, foldB_snoc]
          have hqe : ((t[k]'hlt).toNat : Int) = q := by
            rw [← HQ.out, List.getD_eq_getElem?_getD, List.getElem?_eq_getElem hlt]; rfl
          rw [hqe, ← HE.out, HX.out]
          generalize foldB (-1) (t.take k) = F
          simp only [IntKind.wrap_i64]
          omega
      · obtain rfl : k = t.length := by omega
        rw [List.take_length] at HX
        have hv : readBV s = X := by unfold readBV; rw [HACC.out, HT.out, HX.out]
        have hbase := base_is X s.length hs hX1 hX2
        have hpw : wr.cell? ⟨p, 0, none⟩ = some (.string (mkS s)) := (hb0.cell (lt_of_cell hp)).trans hp
        have hT : readBaseT s = if baseOk s.length X = true ∧ baseL s.length X = s then some X else none := by unfold readBaseT; rw [hv]
        have HR0 := Aside0.mk (Below.refl wr.heap.size wr)
        have KP := Aside0.mk (fun W (hb : Below wr.heap.size wr W) => show W.cell? ⟨p, 0, none⟩ = some (.string (mkS s)) ∧ Aside0 (Below wr.heap.size wr W) from ⟨(hb.cell (lt_of_cell hpw)).trans hpw, ⟨hb⟩⟩)
        clear hex hwd
        cases hok : baseOk s.length X with
        | false =>
          simp only [hok, Bool.false_eq_true, if_false, false_and] at hbase hT
          have H := Aside0.mk hbase
          have HR := Aside0.mk hT
          clear hbase hT
          go_wp2_with fail
          go_region_held (fun W => W.cell? ⟨p, 0, none⟩ = some (.string (mkS s)) ∧ Aside0 (Below wr.heap.size wr W))
            (first
              | exact KP.out _ (below_drew HR0.out)
              | exact KP.out _ hbq
              | exact hF.out.elim)
            ((go_split_ands
              have hbw := Aside0.out (by assumption : Aside0 (Below wr.heap.size wr _))
              first
              | (go_at_call 68; refine calls_panic_stopB (v := .string (mkS s)) (wd := wr) (H.out _) (fun wx hbx => ?_) (fun hF => ?_)
                 · exact ⟨rfl, by rw [HR.out]; rfl, below_next hb0 (below_next hbw hbx)⟩)
              | (go_at_call 82; refine (must_true _).mono ?_; rintro e wp ⟨rfl, rfl⟩)))
          all_goals exact hF.out.elim
        | true =>
          simp only [hok, if_true, true_and] at hbase hT
          obtain ⟨o, ho⟩ : ∃ o, baseL s.length X = o := ⟨_, rfl⟩
          rw [ho] at hbase hT
          have H := Aside0.mk hbase
          clear hbase ho
          by_cases he : o = s
          · subst he
            rw [if_pos rfl] at hT
            have HR := Aside0.mk hT
            clear hT
            go_wp2_with fail
            go_region_held3 (fun W => W.cell? ⟨p, 0, none⟩ = some (.string (mkS o)) ∧ Aside0 (Below wr.heap.size wr W))
              (first
                | exact KP.out _ (below_drew HR0.out)
                | exact KP.out _ hbq)
              ((go_split_ands
                have hbw := Aside0.out (by assumption : Aside0 (Below wr.heap.size wr _))
                first
                | (go_at_call 68; refine (H.out _).mono ?_; rintro e wp ⟨rfl, hbp⟩; have hbq := below_next hbw hbp)
                | (go_at_call 82; refine (must_true _).mono ?_; rintro e wp ⟨rfl, rfl⟩; have hbq := hbw)))
            all_goals
              go_wp2_with fail
              go_ret
              refine ⟨?_, below_next hb0 hbq⟩
              rw [HR.out]
              rfl
          · rw [if_neg he] at hT
            have HR := Aside0.mk hT
            have he2 : (o == s) = false := by simpa using he
            clear he hT
            go_wp2_with fail
            go_region_held (fun W => W.cell? ⟨p, 0, none⟩ = some (.string (mkS s)) ∧ Aside0 (Below wr.heap.size wr W))
              (first
                | exact KP.out _ (below_drew HR0.out)
                | exact KP.out _ hbq
                | exact hF.out.elim)
              ((go_split_ands
                have hbw := Aside0.out (by assumption : Aside0 (Below wr.heap.size wr _))
                first
                | (go_at_call 68; refine (H.out _).mono ?_; rintro e wp ⟨rfl, hbp⟩; have hbq := below_next hbw hbp)
                | (go_at_call 82; refine calls_panic_stop (v := .tuple #[]) (wd := wr) (must_false _) ?_ (fun hF => ?_)
                   · exact ⟨rfl, by rw [HR.out]; rfl, below_next hb0 hbw⟩)))
            all_goals exact hF.out.elim
  · have HACC := Aside0.mk hacc
    clear hacc
    go_enter Tryz.func83, Tryz.ntmps83
    go_wp2_with (first
      | (go_at_call 84; refine (wide_any _ _).mono ?_; rintro e w1 ⟨rfl, hw1⟩; rw [hw1, hwd]; clear hw1)
      | (go_at_call 82; refine (must_true _).mono ?_; rintro e w1 ⟨rfl, hw1⟩; rw [hw1]; clear hw1))
    clear h255 hix
    have h12 : s.tail.length + 1 = s.length := by rw [List.length_tail]; omega
    obtain ⟨t, ht⟩ : ∃ t, s.tail = t := ⟨_, rfl⟩
    rw [ht] at HY hcv hex h12 ⊢
    have HT := Aside0.mk ht
    clear ht
    obtain ⟨g, hg⟩ : ∃ g, w.heap.size = g := ⟨_, rfl⟩
    rw [hg] at HY ⊢
    go_loopw [2, 16] (fun nv iv wr => ∃ (k : Nat) (X : Int), k ≤ t.length ∧ iv = .int .i64 k ∧ nv = .int .i64 X ∧ -9223372036854775808 ≤ X ∧ X ≤ 9223372036854775807 ∧ Aside0 (X = IntKind.i64.wrap (foldB (0) (t.take k))) ∧ wr = W0) (fun _ iv _ => t.length - (intOf iv).toNat)
    case atStart => exact ⟨0, 0, Nat.zero_le _, rfl, rfl, by decide, by decide, ⟨by rw [List.take_zero]; decide⟩, rfl⟩
    case round =>
      obtain ⟨k, X, hk, rfl, rfl, hX1, hX2, HX, rfl⟩ := hrel
      by_cases hlt : k < t.length
      · have u0 := HY.out.cell k hlt
        obtain ⟨q, hq⟩ : ∃ q : Nat, (t.getD k 0).toNat = q := ⟨_, rfl⟩
        have hq2 : q < 256 := by rw [← hq]; exact UInt8.toNat_lt _
        rw [hq] at u0
        obtain ⟨X2, hX2e⟩ : ∃ X2, IntKind.i64.wrap (IntKind.i64.wrap (X * 256) + q) = X2 := ⟨_, rfl⟩
        have hor : Go.bits .or .i64 (wrap64 (X * 256)) (q : Int) = X2 := by
          rw [wrap64_eq]
          have h8 : ((2 ^ 8 : Nat) : Int) = 256 := by decide
          rw [or_join 8 _ _ (.inr rfl) (by rw [h8, IntKind.wrap_i64]; omega) (by omega) (by omega), hX2e]
        have hr1 : -9223372036854775808 ≤ X2 ∧ X2 ≤ 9223372036854775807 := by rw [← hX2e, IntKind.wrap_i64]; omega
        have HQ := Aside0.mk hq
        have HE := Aside0.mk hX2e
        clear hq hX2e
        go_wp2_with fail
        go_roundw
        case measure => simp [intOf]; omega
        case rel =>
          refine ⟨k + 1, X2, by omega, by go_num, rfl, hr1.1, hr1.2, ⟨?_⟩, trivial⟩
          rw [List.take_succ_eq_append_getElem hlt, foldB_snoc]
          have hqe : ((t[k]'hlt).toNat : Int) = q := by
            rw [← HQ.out, List.getD_eq_getElem?_getD, List.getElem?_eq_getElem hlt]; rfl
          rw [hqe, ← HE.out, HX.out]
          generalize foldB (0) (t.take k) = F
          simp only [IntKind.wrap_i64]
          omega
      · obtain rfl : k = t.length := by omega
        rw [List.take_length] at HX
        have hv : readBV s = X := by unfold readBV; rw [HACC.out, HT.out, HX.out]
        have hbase := base_is X s.length hs hX1 hX2
        have hpw : wr.cell? ⟨p, 0, none⟩ = some (.string (mkS s)) := (hb0.cell (lt_of_cell hp)).trans hp
        have hT : readBaseT s = if baseOk s.length X = true ∧ baseL s.length X = s then some X else none := by unfold readBaseT; rw [hv]
        have HR0 := Aside0.mk (Below.refl wr.heap.size wr)
        have KP := Aside0.mk (fun W (hb : Below wr.heap.size wr W) => show W.cell? ⟨p, 0, none⟩ = some (.string (mkS s)) ∧ Aside0 (Below wr.heap.size wr W) from ⟨(hb.cell (lt_of_cell hpw)).trans hpw, ⟨hb⟩⟩)
        clear hex hwd
        cases hok : baseOk s.length X with
        | false =>
          simp only [hok, Bool.false_eq_true, if_false, false_and] at hbase hT
          have H := Aside0.mk hbase
          have HR := Aside0.mk hT
          clear hbase hT
          go_wp2_with fail
          go_region_held (fun W => W.cell? ⟨p, 0, none⟩ = some (.string (mkS s)) ∧ Aside0 (Below wr.heap.size wr W))
            (first
              | exact KP.out _ (below_drew HR0.out)
              | exact KP.out _ hbq
              | exact hF.out.elim)
            ((go_split_ands
              have hbw := Aside0.out (by assumption : Aside0 (Below wr.heap.size wr _))
              first
              | (go_at_call 68; refine calls_panic_stopB (v := .string (mkS s)) (wd := wr) (H.out _) (fun wx hbx => ?_) (fun hF => ?_)
                 · exact ⟨rfl, by rw [HR.out]; rfl, below_next hb0 (below_next hbw hbx)⟩)
              | (go_at_call 82; refine (must_true _).mono ?_; rintro e wp ⟨rfl, rfl⟩)))
          all_goals exact hF.out.elim
        | true =>
          simp only [hok, if_true, true_and] at hbase hT
          obtain ⟨o, ho⟩ : ∃ o, baseL s.length X = o := ⟨_, rfl⟩
          rw [ho] at hbase hT
          have H := Aside0.mk hbase
          clear hbase ho
          by_cases he : o = s
          · subst he
            rw [if_pos rfl] at hT
            have HR := Aside0.mk hT
            clear hT
            go_wp2_with fail
            go_region_held3 (fun W => W.cell? ⟨p, 0, none⟩ = some (.string (mkS o)) ∧ Aside0 (Below wr.heap.size wr W))
              (first
                | exact KP.out _ (below_drew HR0.out)
                | exact KP.out _ hbq)
              ((go_split_ands
                have hbw := Aside0.out (by assumption : Aside0 (Below wr.heap.size wr _))
                first
                | (go_at_call 68; refine (H.out _).mono ?_; rintro e wp ⟨rfl, hbp⟩; have hbq := below_next hbw hbp)
                | (go_at_call 82; refine (must_true _).mono ?_; rintro e wp ⟨rfl, rfl⟩; have hbq := hbw)))
            all_goals
              go_wp2_with fail
              go_ret
              refine ⟨?_, below_next hb0 hbq⟩
              rw [HR.out]
              rfl
          · rw [if_neg he] at hT
            have HR := Aside0.mk hT
            have he2 : (o == s) = false := by simpa using he
            clear he hT
            go_wp2_with fail
            go_region_held (fun W => W.cell? ⟨p, 0, none⟩ = some (.string (mkS s)) ∧ Aside0 (Below wr.heap.size wr W))
              (first
                | exact KP.out _ (below_drew HR0.out)
                | exact KP.out _ hbq
                | exact hF.out.elim)
              ((go_split_ands
                have hbw := Aside0.out (by assumption : Aside0 (Below wr.heap.size wr _))
                first
                | (go_at_call 68; refine (H.out _).mono ?_; rintro e wp ⟨rfl, hbp⟩; have hbq := below_next hbw hbp)
                | (go_at_call 82; refine calls_panic_stop (v := .tuple #[]) (wd := wr) (must_false _) ?_ (fun hF => ?_)
                   · exact ⟨rfl, by rw [HR.out]; rfl, below_next hb0 hbw⟩)))
            all_goals exact hF.out.elim
end Go.Proofs.YtpmiddhdgidimaaGreatDoor
