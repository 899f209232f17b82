-- Laid by this session's prt.py (the kit's print.py, some callees proved by hand).
import Derived.Test.YtejgnnhmeolphaaDoorPRefTextx0
namespace Go.Proofs.YtejgnnhmeolphaaDoor.PRefText
open Go.RowKit Go.Proofs.YtejgnnhmeolphaaDoorW.PrintWords Go.Proofs.YtejgnnhmeolphaaDoorW.PrintLast Go.Proofs.YtejgnnhmeolphaaDoorW.PrintMore
theorem size58 : (⟨#[58]⟩ : ByteArray).size = 1 := rfl
theorem size44 : (⟨#[44]⟩ : ByteArray).size = 1 := rfl
attribute [local go_sem] max2_int min2_int max_two min_two max_three min_three max_four min_four   -- for this text's walks alone
set_option linter.unusedVariables false
set_option linter.unusedSimpArgs false

/-! ### gripsackref9_TextAcl: function 20 -/
mutual
def gripsackref9_TextAcl.l0 : Nat → List (S27) → ByteArray → Int → Option (ByteArray)
  | 0, _, _, _ => none
  | k + 1, x0, x3, x4 => if x4 < (x0.length : Int) then (if 0 ≤ x4 then (if x4 > 0 then (if x3.size + 1 ≤ 9223372036854775807 then (gripsackref9_TextAcl.j1 k x0 (x3 ++ (⟨#[44]⟩ : ByteArray)) x4 ((rd_T27 x0 x4).f0) ((rd_T27 x0 x4).f1) ((rd_T27 x0 x4).f2)) else (none)) else (gripsackref9_TextAcl.j1 k x0 x3 x4 ((rd_T27 x0 x4).f0) ((rd_T27 x0 x4).f1) ((rd_T27 x0 x4).f2))) else (none)) else (some x3)
def gripsackref9_TextAcl.j1 : Nat → List (S27) → ByteArray → Int → Int → Int → Int → Option (ByteArray)
  | 0, _, _, _, _, _, _ => none
  | k + 1, x0, x3, x4, x103000, x103001, x103002 => (some (([(⟨#[]⟩ : ByteArray), (⟨#[117]⟩ : ByteArray), (⟨#[117]⟩ : ByteArray), (⟨#[103]⟩ : ByteArray), (⟨#[103]⟩ : ByteArray), (⟨#[109]⟩ : ByteArray), (⟨#[111]⟩ : ByteArray)] : List ByteArray) : List ByteArray)).bind fun y103 => (if 0 ≤ x103000 then (if x103000 < (y103.length : Int) then (if x3.size + (rdOf ByteArray.empty y103 x103000).size ≤ 9223372036854775807 then (if (x3 ++ (rdOf ByteArray.empty y103 x103000)).size + 1 ≤ 9223372036854775807 then ((PRefMay.gripsackref9_named.f x103000 x103001 x103002).bind fun t107 => (if t107 = true then ((PAclR.gripsackref1_Digits.f k x103001).bind fun t108 => (if ((x3 ++ (rdOf ByteArray.empty y103 x103000)) ++ (⟨#[58]⟩ : ByteArray)).size + t108.size ≤ 9223372036854775807 then (if (((x3 ++ (rdOf ByteArray.empty y103 x103000)) ++ (⟨#[58]⟩ : ByteArray)) ++ t108).size + 1 ≤ 9223372036854775807 then ((gripsackref9_rwx.f x103002).bind fun t109 => (if ((((x3 ++ (rdOf ByteArray.empty y103 x103000)) ++ (⟨#[58]⟩ : ByteArray)) ++ t108) ++ (⟨#[58]⟩ : ByteArray)).size + t109.size ≤ 9223372036854775807 then (gripsackref9_TextAcl.l0 k x0 (((((x3 ++ (rdOf ByteArray.empty y103 x103000)) ++ (⟨#[58]⟩ : ByteArray)) ++ t108) ++ (⟨#[58]⟩ : ByteArray)) ++ t109) (wrap64 (x4 + 1))) else (none))) else (none)) else (none))) else (if ((x3 ++ (rdOf ByteArray.empty y103 x103000)) ++ (⟨#[58]⟩ : ByteArray)).size + 1 ≤ 9223372036854775807 then ((gripsackref9_rwx.f x103002).bind fun t110 => (if (((x3 ++ (rdOf ByteArray.empty y103 x103000)) ++ (⟨#[58]⟩ : ByteArray)) ++ (⟨#[58]⟩ : ByteArray)).size + t110.size ≤ 9223372036854775807 then (gripsackref9_TextAcl.l0 k x0 ((((x3 ++ (rdOf ByteArray.empty y103 x103000)) ++ (⟨#[58]⟩ : ByteArray)) ++ (⟨#[58]⟩ : ByteArray)) ++ t110) (wrap64 (x4 + 1))) else (none))) else (none)))) else (none)) else (none)) else (none)) else (none))
end
def gripsackref9_TextAcl.f (k : Nat) (l0 : List (S27)) : Option (ByteArray) := gripsackref9_TextAcl.l0 k l0 (⟨#[]⟩ : ByteArray) 0
theorem gripsackref9_TextAcl.mono_l : ∀ k, (∀ y0 y1 y2, LeO (gripsackref9_TextAcl.l0 k y0 y1 y2) (gripsackref9_TextAcl.l0 (k + 1) y0 y1 y2)) ∧ (∀ y0 y1 y2 y3 y4 y5, LeO (gripsackref9_TextAcl.j1 k y0 y1 y2 y3 y4 y5) (gripsackref9_TextAcl.j1 (k + 1) y0 y1 y2 y3 y4 y5))
  | 0 => ⟨fun _ _ _ r h => by simp [gripsackref9_TextAcl.l0] at h, fun _ _ _ _ _ _ r h => by simp [gripsackref9_TextAcl.j1] at h⟩
  | k + 1 => by
    obtain ⟨ih0, ih1⟩ := gripsackref9_TextAcl.mono_l k
    refine ⟨?_, ?_⟩
    · intro y0 y1 y2
      unfold gripsackref9_TextAcl.l0
      repeat' first
      | (with_reducible exact ih0 _ _ _)
      | (with_reducible exact ih1 _ _ _ _ _ _)
      | (with_reducible exact PAclR.gripsackref1_Digits.mono _ _)
      | (with_reducible exact LeO.refl _)
      | (with_reducible exact LeO.none _)
      | (with_reducible refine LeO.ite ?_ ?_)
      | (with_reducible refine LeO.bind ?_ (fun _ => ?_))
      | exact ih0 _ _ _
      | exact ih1 _ _ _ _ _ _
      | exact PAclR.gripsackref1_Digits.mono _ _
      | exact LeO.none _
      | refine LeO.ite ?_ ?_
      | refine LeO.bind ?_ (fun _ => ?_)
    · intro y0 y1 y2 y3 y4 y5
      unfold gripsackref9_TextAcl.j1
      repeat' first
      | (with_reducible exact ih0 _ _ _)
      | (with_reducible exact ih1 _ _ _ _ _ _)
      | (with_reducible exact PAclR.gripsackref1_Digits.mono _ _)
      | (with_reducible exact LeO.refl _)
      | (with_reducible exact LeO.none _)
      | (with_reducible refine LeO.ite ?_ ?_)
      | (with_reducible refine LeO.bind ?_ (fun _ => ?_))
      | exact ih0 _ _ _
      | exact ih1 _ _ _ _ _ _
      | exact PAclR.gripsackref1_Digits.mono _ _
      | exact LeO.none _
      | refine LeO.ite ?_ ?_
      | refine LeO.bind ?_ (fun _ => ?_)
theorem gripsackref9_TextAcl.mono : ∀ a0 k, LeO (gripsackref9_TextAcl.f k a0) (gripsackref9_TextAcl.f (k + 1) a0) := by
  intro a0 k
  obtain ⟨ih0, ih1⟩ := gripsackref9_TextAcl.mono_l k
  unfold gripsackref9_TextAcl.f
  repeat' first
      | (with_reducible exact ih0 _ _ _)
      | (with_reducible exact ih1 _ _ _ _ _ _)
      | (with_reducible exact PAclR.gripsackref1_Digits.mono _ _)
      | (with_reducible exact LeO.refl _)
      | (with_reducible exact LeO.none _)
      | (with_reducible refine LeO.ite ?_ ?_)
      | (with_reducible refine LeO.bind ?_ (fun _ => ?_))
      | exact ih0 _ _ _
      | exact ih1 _ _ _ _ _ _
      | exact PAclR.gripsackref1_Digits.mono _ _
      | exact LeO.none _
      | refine LeO.ite ?_ ?_
      | refine LeO.bind ?_ (fun _ => ?_)
set_option maxHeartbeats 8000000 in
set_option maxRecDepth 100000 in
theorem gripsackref9_TextAcl.calls (k : Nat) (A0 : Option Addr) (c0 : Nat) (l0 : List (S27)) (r : ByteArray) (w : World) (hr0 : Kd.C k27 w A0 l0.length l0) (hc0 : l0.length ≤ c0) (h : gripsackref9_TextAcl.f k l0 = some r) :
    Calls Tryd.prog 20 #[.slice A0 l0.length c0] w fun e w' => e = .returned (.string r) ∧ Below w.heap.size w w' := by
  have hu27 := Tryd.underlying27
  have HR0 := Aside0.mk hr0
  have HC0 := Aside0.mk hc0
  clear hr0 hc0
  have HB := Aside0.mk (Below.refl w.heap.size w)
  have H : (gripsackref9_TextAcl.l0 k l0 (⟨#[]⟩ : ByteArray) 0) = some r := h
  clear h
  have H' := Aside0.mk H
  clear H
  go_enter Tryd.func20, Tryd.ntmps20
  go_wp2
  go_loopg [3, 4] k (fun kq v3 v4 w' => ∃ (x3_1 : ByteArray) (x4_1 : Int), v3 = .string x3_1 ∧ v4 = .int .i64 x4_1 ∧ Aside0 (gripsackref9_TextAcl.l0 kq l0 x3_1 x4_1 = some r) ∧ Aside0 (kq ≤ k) ∧ Aside0 (Below w.heap.size w w'))
  case atStart => exact ⟨((⟨#[]⟩ : ByteArray)), (0), (by first | rfl | (simp; done) | (simp [*]; done)), (by first | rfl | (simp; done) | (simp [*]; done)), H', ⟨Nat.le_refl _⟩, ⟨by repeat (first | (with_reducible first | exact HB.out | apply below_alloc | apply pw_below_drewN | apply below_drew1) | exact HB.out)⟩⟩
  case round =>
    clear H'
    obtain ⟨x3_1, x4_1, rfl, rfl, HA, HK1, HB⟩ := hrel
    cases gk with
    | zero => exact absurd HA.out (by simp [gripsackref9_TextAcl.l0])
    | succ k1 =>
      have H := HA.out
      clear HA
      simp only [gripsackref9_TextAcl.l0] at H
      by_cases c2 : x4_1 < (l0.length : Int)
      · rw [if_pos c2] at H
        have c2b0 : decide (x4_1 < (l0.length : Int)) = true := decide_eq_true c2
        clear c2
        by_cases c3 : 0 ≤ x4_1
        · rw [if_pos c3] at H
          have c3b0 : decide (0 ≤ x4_1) = true := decide_eq_true c3
          clear c3
          have HC4 := Aside0.mk H
          clear H
          have p101 : 0 ≤ (x4_1 : Int) := of_decide_eq_true (by first | (with_reducible assumption) | assumption)
          have q101 : x4_1 < (l0.length : Int) := of_decide_eq_true (by first | (with_reducible assumption) | assumption)
          obtain ⟨ad101, e101, hx101_0, hx101_1, hx101_2⟩ := at_T27 HR0.out x4_1 p101 q101
          cases e101
          replace hx101_0 := (HB.out.cell (World.block_lt_of_cell? w _ hx101_0)).trans hx101_0
          replace hx101_1 := (HB.out.cell (World.block_lt_of_cell? w _ hx101_1)).trans hx101_1
          replace hx101_2 := (HB.out.cell (World.block_lt_of_cell? w _ hx101_2)).trans hx101_2
          replace p101 := eq_true p101
          replace q101 := eq_true q101
          go_upto_if 17 with (first | ((with_reducible refine gate_dst (N := 5) rfl ?_); refine box_event ?hg (N := 5) ?hd (cs := #[.int .i64 0, .int .i64 0, .int .i64 0]) (t := 27) ?hr ?_; (case hd => rfl); (case hg => rfl); (case hr => first | (go_simp; done) | (go_simp; rfl)); intro gb102 hg w5 hbox hb; have n0_ := Aside0.mk (below_step (by repeat (first | (with_reducible first | exact HB.out | apply below_alloc | apply pw_below_drewN | apply below_drew1) | exact HB.out)) hb); have n1_ := Aside0.mk (hbox); have n2_ := Aside0.mk ((by rw [hg]; exact (below_size (by repeat (first | (with_reducible first | exact HB.out | apply below_alloc | apply pw_below_drewN | apply below_drew1) | exact HB.out))) : w.heap.size ≤ gb102)); have n3_ := Aside0.mk ((by rw [hg]; exact (below_size (by repeat (first | (with_reducible first | exact HB.out | apply below_alloc | apply pw_below_drewN | apply below_drew1) | exact HB.out))) : w.heap.size ≤ gb102)); clear HB; have HB := n0_; have BK102 := n1_; have GW102 := n2_; have GE102 := n3_; clear n0_ n1_ n2_ n3_; clear hb hbox hg; have hcz6_0 : w5.cell? ⟨gb102, 0, none⟩ = some (.int .i64 0) := (blk_cell BK102.out 0).trans rfl; have hcz6_1 : w5.cell? ⟨gb102, 1, none⟩ = some (.int .i64 0) := (blk_cell BK102.out 1).trans rfl; have hcz6_2 : w5.cell? ⟨gb102, 2, none⟩ = some (.int .i64 0) := (blk_cell BK102.out 2).trans rfl; have hfz6_0 := blk_frozen BK102.out 0; have hfz6_1 := blk_frozen BK102.out 1; have hfz6_2 := blk_frozen BK102.out 2))
          (try simp only [Act.put, List.setIfInBounds_toArray, List.set_cons_zero, List.set_cons_succ])
          go_cut [3] (fun v3 wc => ∃ (kq : Nat) (x3_3 : ByteArray), v3 = .string x3_3 ∧ Aside0 (gripsackref9_TextAcl.j1 kq l0 x3_3 x4_1 ((rd_T27 l0 x4_1).f0) ((rd_T27 l0 x4_1).f1) ((rd_T27 l0 x4_1).f2) = some r) ∧ Aside0 (kq ≤ k1) ∧ Aside0 (wc.heap[gb102]? = some (.cells #[.int .i64 ((rd_T27 l0 x4_1).f0), .int .i64 ((rd_T27 l0 x4_1).f1), .int .i64 ((rd_T27 l0 x4_1).f2)] 27 (0, 0))) ∧ Aside0 (Below w.heap.size w wc))
          case first =>
            have H := HC4.out
            clear HC4
            by_cases c7 : x4_1 > 0
            · rw [if_pos c7] at H
              have c7b0 : decide (0 < x4_1) = true := decide_eq_true c7
              clear c7
              (first | rw [c7b0] | (simp only [i64_w, i32_w]; rw [c7b0]) | skip)
              by_cases c8 : x3_1.size + 1 ≤ 9223372036854775807
              · rw [if_pos c8] at H
                have c8b0 := eq_true c8
                have c8b1 : decide (x3_1.size + 1 ≤ 9223372036854775807) = true := decide_eq_true c8
                try have c8b2 : (9223372036854775807 < x3_1.size + 1) = False := eq_false (Nat.not_lt.2 c8)
                have H' := Aside0.mk H
                clear H
                go_wp2
                go_meet
                case rel => exact ⟨_, (x3_1 ++ (⟨#[44]⟩ : ByteArray)), (by first | rfl | (simp; done) | (simp [*]; done)), H', ⟨by have := HK1.out; first | omega | exact Nat.le_refl _⟩, ⟨by (with_reducible repeat (first | refine blk_drewN ?_ _ | refine blk_drew ?_ | refine blk_alloc ?_ _)); refine blk_put (cs := #[.int .i64 ((rd_T27 l0 x4_1).f0), .int .i64 ((rd_T27 l0 x4_1).f1), .int .i64 0]) ?_ 2 _ rfl; (with_reducible repeat (first | refine blk_drewN ?_ _ | refine blk_drew ?_ | refine blk_alloc ?_ _)); refine blk_put (cs := #[.int .i64 ((rd_T27 l0 x4_1).f0), .int .i64 0, .int .i64 0]) ?_ 1 _ rfl; (with_reducible repeat (first | refine blk_drewN ?_ _ | refine blk_drew ?_ | refine blk_alloc ?_ _)); refine blk_put (cs := #[.int .i64 0, .int .i64 0, .int .i64 0]) ?_ 0 _ rfl; (with_reducible repeat (first | refine blk_drewN ?_ _ | refine blk_drew ?_ | refine blk_alloc ?_ _)); exact BK102.out⟩, ⟨by repeat (first | (with_reducible first | exact HB.out | apply below_alloc | apply pw_below_drewN | apply below_drew1 | refine below_set ?_ GE102.out) | exact HB.out)⟩⟩
              · rw [if_neg c8] at H
                exact absurd H (by simp)
            · rw [if_neg c7] at H
              have c7b0 : decide (0 < x4_1) = false := decide_eq_false c7
              clear c7
              (first | rw [c7b0] | (simp only [i64_w, i32_w]; rw [c7b0]) | skip)
              have H' := Aside0.mk H
              clear H
              go_wp2
              go_meet
              case rel => exact ⟨_, (x3_1), (by first | rfl | (simp; done) | (simp [*]; done)), H', ⟨by have := HK1.out; first | omega | exact Nat.le_refl _⟩, ⟨by (with_reducible repeat (first | refine blk_drewN ?_ _ | refine blk_drew ?_ | refine blk_alloc ?_ _)); refine blk_put (cs := #[.int .i64 ((rd_T27 l0 x4_1).f0), .int .i64 ((rd_T27 l0 x4_1).f1), .int .i64 0]) ?_ 2 _ rfl; (with_reducible repeat (first | refine blk_drewN ?_ _ | refine blk_drew ?_ | refine blk_alloc ?_ _)); refine blk_put (cs := #[.int .i64 ((rd_T27 l0 x4_1).f0), .int .i64 0, .int .i64 0]) ?_ 1 _ rfl; (with_reducible repeat (first | refine blk_drewN ?_ _ | refine blk_drew ?_ | refine blk_alloc ?_ _)); refine blk_put (cs := #[.int .i64 0, .int .i64 0, .int .i64 0]) ?_ 0 _ rfl; (with_reducible repeat (first | refine blk_drewN ?_ _ | refine blk_drew ?_ | refine blk_alloc ?_ _)); exact BK102.out⟩, ⟨by repeat (first | (with_reducible first | exact HB.out | apply below_alloc | apply pw_below_drewN | apply below_drew1 | refine below_set ?_ GE102.out) | exact HB.out)⟩⟩
          case rest =>
            clear HC4
            try clear p1
            try clear q1
            try clear hx1
            try clear c2
            try clear c2b0
            try clear p2
            try clear c3
            try clear c3b0
            try clear c7
            try clear c7b0
            try clear c8
            try clear c8b0
            try clear c8b1
            try clear c8b2
            try clear hcz6_0
            try clear hcz6_1
            try clear hcz6_2
            try clear hfz6_0
            try clear hfz6_1
            try clear hfz6_2
            try clear hx101_0
            try clear hx101_1
            try clear hx101_2
            try clear p101
            try clear q101
            obtain ⟨kq, x3_3, rfl, HA, HJ3, BK102, HB⟩ := hcut
            cases kq with
            | zero => exact absurd HA.out (by simp [gripsackref9_TextAcl.j1])
            | succ kj3 =>
              have H := HA.out
              clear HA
              simp only [gripsackref9_TextAcl.j1] at H
              obtain ⟨y103, hy103⟩ : ∃ y_ : List ByteArray, y_ = (([(⟨#[]⟩ : ByteArray), (⟨#[117]⟩ : ByteArray), (⟨#[117]⟩ : ByteArray), (⟨#[103]⟩ : ByteArray), (⟨#[103]⟩ : ByteArray), (⟨#[109]⟩ : ByteArray), (⟨#[111]⟩ : ByteArray)] : List ByteArray)) := ⟨_, rfl⟩
              replace H : (if 0 ≤ ((rd_T27 l0 x4_1).f0) then (if ((rd_T27 l0 x4_1).f0) < (y103.length : Int) then (if x3_3.size + (rdOf ByteArray.empty y103 ((rd_T27 l0 x4_1).f0)).size ≤ 9223372036854775807 then (if (x3_3 ++ (rdOf ByteArray.empty y103 ((rd_T27 l0 x4_1).f0))).size + 1 ≤ 9223372036854775807 then ((PRefMay.gripsackref9_named.f ((rd_T27 l0 x4_1).f0) ((rd_T27 l0 x4_1).f1) ((rd_T27 l0 x4_1).f2)).bind fun t107 => (if t107 = true then ((PAclR.gripsackref1_Digits.f kj3 ((rd_T27 l0 x4_1).f1)).bind fun t108 => (if ((x3_3 ++ (rdOf ByteArray.empty y103 ((rd_T27 l0 x4_1).f0))) ++ (⟨#[58]⟩ : ByteArray)).size + t108.size ≤ 9223372036854775807 then (if (((x3_3 ++ (rdOf ByteArray.empty y103 ((rd_T27 l0 x4_1).f0))) ++ (⟨#[58]⟩ : ByteArray)) ++ t108).size + 1 ≤ 9223372036854775807 then ((gripsackref9_rwx.f ((rd_T27 l0 x4_1).f2)).bind fun t109 => (if ((((x3_3 ++ (rdOf ByteArray.empty y103 ((rd_T27 l0 x4_1).f0))) ++ (⟨#[58]⟩ : ByteArray)) ++ t108) ++ (⟨#[58]⟩ : ByteArray)).size + t109.size ≤ 9223372036854775807 then (gripsackref9_TextAcl.l0 kj3 l0 (((((x3_3 ++ (rdOf ByteArray.empty y103 ((rd_T27 l0 x4_1).f0))) ++ (⟨#[58]⟩ : ByteArray)) ++ t108) ++ (⟨#[58]⟩ : ByteArray)) ++ t109) (wrap64 (x4_1 + 1))) else (none))) else (none)) else (none))) else (if ((x3_3 ++ (rdOf ByteArray.empty y103 ((rd_T27 l0 x4_1).f0))) ++ (⟨#[58]⟩ : ByteArray)).size + 1 ≤ 9223372036854775807 then ((gripsackref9_rwx.f ((rd_T27 l0 x4_1).f2)).bind fun t110 => (if (((x3_3 ++ (rdOf ByteArray.empty y103 ((rd_T27 l0 x4_1).f0))) ++ (⟨#[58]⟩ : ByteArray)) ++ (⟨#[58]⟩ : ByteArray)).size + t110.size ≤ 9223372036854775807 then (gripsackref9_TextAcl.l0 kj3 l0 ((((x3_3 ++ (rdOf ByteArray.empty y103 ((rd_T27 l0 x4_1).f0))) ++ (⟨#[58]⟩ : ByteArray)) ++ (⟨#[58]⟩ : ByteArray)) ++ t110) (wrap64 (x4_1 + 1))) else (none))) else (none)))) else (none)) else (none)) else (none)) else (none)) = some r := by first | (rw [hy103]; with_reducible exact H) | (have H2_ := (Option.bind_some _ _).symm.trans H; rw [hy103]; with_reducible exact H2_) | (have H2_ := (Option.bind_some _ _).symm.trans H; with_reducible exact H2_) | with_reducible exact H | (rw [hy103]; exact H) | exact H
              have Ny103 := Aside0.mk hy103
              clear hy103
              by_cases c9 : 0 ≤ ((rd_T27 l0 x4_1).f0)
              · rw [if_pos c9] at H
                have c9b0 : decide (0 ≤ ((rd_T27 l0 x4_1).f0)) = true := decide_eq_true c9
                clear c9
                by_cases c10 : ((rd_T27 l0 x4_1).f0) < (y103.length : Int)
                · rw [if_pos c10] at H
                  have c10b0 : decide (((rd_T27 l0 x4_1).f0) < (y103.length : Int)) = true := decide_eq_true c10
                  clear c10
                  by_cases c11 : x3_3.size + (rdOf ByteArray.empty y103 ((rd_T27 l0 x4_1).f0)).size ≤ 9223372036854775807
                  · rw [if_pos c11] at H
                    have c11b0 := eq_true c11
                    have c11b1 : decide (x3_3.size + (rdOf ByteArray.empty y103 ((rd_T27 l0 x4_1).f0)).size ≤ 9223372036854775807) = true := decide_eq_true c11
                    try have c11b2 : (9223372036854775807 < x3_3.size + (rdOf ByteArray.empty y103 ((rd_T27 l0 x4_1).f0)).size) = False := eq_false (Nat.not_lt.2 c11)
                    by_cases c12 : (x3_3 ++ (rdOf ByteArray.empty y103 ((rd_T27 l0 x4_1).f0))).size + 1 ≤ 9223372036854775807
                    · rw [if_pos c12] at H
                      have c12b0 := eq_true c12
                      have c12b1 : decide ((x3_3 ++ (rdOf ByteArray.empty y103 ((rd_T27 l0 x4_1).f0))).size + 1 ≤ 9223372036854775807) = true := decide_eq_true c12
                      try have c12b2 : (9223372036854775807 < (x3_3 ++ (rdOf ByteArray.empty y103 ((rd_T27 l0 x4_1).f0))).size + 1) = False := eq_false (Nat.not_lt.2 c12)
                      have c12z := eq_false (Nat.not_lt.2 c12)
                      try simp only [ByteArray.size_append, size58, size44] at c12z
                      replace H := Option.bind_eq_some_iff.mp H
                      obtain ⟨t107, A130, H⟩ := H
                      replace H : (if t107 = true then ((PAclR.gripsackref1_Digits.f kj3 ((rd_T27 l0 x4_1).f1)).bind fun t108 => (if ((x3_3 ++ (rdOf ByteArray.empty y103 ((rd_T27 l0 x4_1).f0))) ++ (⟨#[58]⟩ : ByteArray)).size + t108.size ≤ 9223372036854775807 then (if (((x3_3 ++ (rdOf ByteArray.empty y103 ((rd_T27 l0 x4_1).f0))) ++ (⟨#[58]⟩ : ByteArray)) ++ t108).size + 1 ≤ 9223372036854775807 then ((gripsackref9_rwx.f ((rd_T27 l0 x4_1).f2)).bind fun t109 => (if ((((x3_3 ++ (rdOf ByteArray.empty y103 ((rd_T27 l0 x4_1).f0))) ++ (⟨#[58]⟩ : ByteArray)) ++ t108) ++ (⟨#[58]⟩ : ByteArray)).size + t109.size ≤ 9223372036854775807 then (gripsackref9_TextAcl.l0 kj3 l0 (((((x3_3 ++ (rdOf ByteArray.empty y103 ((rd_T27 l0 x4_1).f0))) ++ (⟨#[58]⟩ : ByteArray)) ++ t108) ++ (⟨#[58]⟩ : ByteArray)) ++ t109) (wrap64 (x4_1 + 1))) else (none))) else (none)) else (none))) else (if ((x3_3 ++ (rdOf ByteArray.empty y103 ((rd_T27 l0 x4_1).f0))) ++ (⟨#[58]⟩ : ByteArray)).size + 1 ≤ 9223372036854775807 then ((gripsackref9_rwx.f ((rd_T27 l0 x4_1).f2)).bind fun t110 => (if (((x3_3 ++ (rdOf ByteArray.empty y103 ((rd_T27 l0 x4_1).f0))) ++ (⟨#[58]⟩ : ByteArray)) ++ (⟨#[58]⟩ : ByteArray)).size + t110.size ≤ 9223372036854775807 then (gripsackref9_TextAcl.l0 kj3 l0 ((((x3_3 ++ (rdOf ByteArray.empty y103 ((rd_T27 l0 x4_1).f0))) ++ (⟨#[58]⟩ : ByteArray)) ++ (⟨#[58]⟩ : ByteArray)) ++ t110) (wrap64 (x4_1 + 1))) else (none))) else (none))) = some r := H
                      have A13 := Aside0.mk A130
                      clear A130
                      by_cases c14 : t107 = true
                      · subst c14
                        have H1 : ((PAclR.gripsackref1_Digits.f kj3 ((rd_T27 l0 x4_1).f1)).bind fun t108 => (if ((x3_3 ++ (rdOf ByteArray.empty y103 ((rd_T27 l0 x4_1).f0))) ++ (⟨#[58]⟩ : ByteArray)).size + t108.size ≤ 9223372036854775807 then (if (((x3_3 ++ (rdOf ByteArray.empty y103 ((rd_T27 l0 x4_1).f0))) ++ (⟨#[58]⟩ : ByteArray)) ++ t108).size + 1 ≤ 9223372036854775807 then ((gripsackref9_rwx.f ((rd_T27 l0 x4_1).f2)).bind fun t109 => (if ((((x3_3 ++ (rdOf ByteArray.empty y103 ((rd_T27 l0 x4_1).f0))) ++ (⟨#[58]⟩ : ByteArray)) ++ t108) ++ (⟨#[58]⟩ : ByteArray)).size + t109.size ≤ 9223372036854775807 then (gripsackref9_TextAcl.l0 kj3 l0 (((((x3_3 ++ (rdOf ByteArray.empty y103 ((rd_T27 l0 x4_1).f0))) ++ (⟨#[58]⟩ : ByteArray)) ++ t108) ++ (⟨#[58]⟩ : ByteArray)) ++ t109) (wrap64 (x4_1 + 1))) else (none))) else (none)) else (none))) = some r := by rw [if_pos rfl] at H; exact H
                        clear H
                        have H := H1
                        clear H1
                        replace H := Option.bind_eq_some_iff.mp H
                        obtain ⟨t108, A150, H⟩ := H
                        replace H : (if ((x3_3 ++ (rdOf ByteArray.empty y103 ((rd_T27 l0 x4_1).f0))) ++ (⟨#[58]⟩ : ByteArray)).size + t108.size ≤ 9223372036854775807 then (if (((x3_3 ++ (rdOf ByteArray.empty y103 ((rd_T27 l0 x4_1).f0))) ++ (⟨#[58]⟩ : ByteArray)) ++ t108).size + 1 ≤ 9223372036854775807 then ((gripsackref9_rwx.f ((rd_T27 l0 x4_1).f2)).bind fun t109 => (if ((((x3_3 ++ (rdOf ByteArray.empty y103 ((rd_T27 l0 x4_1).f0))) ++ (⟨#[58]⟩ : ByteArray)) ++ t108) ++ (⟨#[58]⟩ : ByteArray)).size + t109.size ≤ 9223372036854775807 then (gripsackref9_TextAcl.l0 kj3 l0 (((((x3_3 ++ (rdOf ByteArray.empty y103 ((rd_T27 l0 x4_1).f0))) ++ (⟨#[58]⟩ : ByteArray)) ++ t108) ++ (⟨#[58]⟩ : ByteArray)) ++ t109) (wrap64 (x4_1 + 1))) else (none))) else (none)) else (none)) = some r := H
                        have A15 := Aside0.mk A150
                        clear A150
                        by_cases c16 : ((x3_3 ++ (rdOf ByteArray.empty y103 ((rd_T27 l0 x4_1).f0))) ++ (⟨#[58]⟩ : ByteArray)).size + t108.size ≤ 9223372036854775807
                        · rw [if_pos c16] at H
                          have c16b0 := eq_true c16
                          have c16b1 : decide (((x3_3 ++ (rdOf ByteArray.empty y103 ((rd_T27 l0 x4_1).f0))) ++ (⟨#[58]⟩ : ByteArray)).size + t108.size ≤ 9223372036854775807) = true := decide_eq_true c16
                          try have c16b2 : (9223372036854775807 < ((x3_3 ++ (rdOf ByteArray.empty y103 ((rd_T27 l0 x4_1).f0))) ++ (⟨#[58]⟩ : ByteArray)).size + t108.size) = False := eq_false (Nat.not_lt.2 c16)
                          have c16z := eq_false (Nat.not_lt.2 c16)
                          try simp only [ByteArray.size_append, size58, size44] at c16z
                          by_cases c17 : (((x3_3 ++ (rdOf ByteArray.empty y103 ((rd_T27 l0 x4_1).f0))) ++ (⟨#[58]⟩ : ByteArray)) ++ t108).size + 1 ≤ 9223372036854775807
                          · rw [if_pos c17] at H
                            have c17b0 := eq_true c17
                            have c17b1 : decide ((((x3_3 ++ (rdOf ByteArray.empty y103 ((rd_T27 l0 x4_1).f0))) ++ (⟨#[58]⟩ : ByteArray)) ++ t108).size + 1 ≤ 9223372036854775807) = true := decide_eq_true c17
                            try have c17b2 : (9223372036854775807 < (((x3_3 ++ (rdOf ByteArray.empty y103 ((rd_T27 l0 x4_1).f0))) ++ (⟨#[58]⟩ : ByteArray)) ++ t108).size + 1) = False := eq_false (Nat.not_lt.2 c17)
                            have c17z := eq_false (Nat.not_lt.2 c17)
                            try simp only [ByteArray.size_append, size58, size44] at c17z
                            replace H := Option.bind_eq_some_iff.mp H
                            obtain ⟨t109, A180, H⟩ := H
                            replace H : (if ((((x3_3 ++ (rdOf ByteArray.empty y103 ((rd_T27 l0 x4_1).f0))) ++ (⟨#[58]⟩ : ByteArray)) ++ t108) ++ (⟨#[58]⟩ : ByteArray)).size + t109.size ≤ 9223372036854775807 then (gripsackref9_TextAcl.l0 kj3 l0 (((((x3_3 ++ (rdOf ByteArray.empty y103 ((rd_T27 l0 x4_1).f0))) ++ (⟨#[58]⟩ : ByteArray)) ++ t108) ++ (⟨#[58]⟩ : ByteArray)) ++ t109) (wrap64 (x4_1 + 1))) else (none)) = some r := H
                            have A18 := Aside0.mk A180
                            clear A180
                            by_cases c19 : ((((x3_3 ++ (rdOf ByteArray.empty y103 ((rd_T27 l0 x4_1).f0))) ++ (⟨#[58]⟩ : ByteArray)) ++ t108) ++ (⟨#[58]⟩ : ByteArray)).size + t109.size ≤ 9223372036854775807
                            · rw [if_pos c19] at H
                              have c19b0 := eq_true c19
                              have c19b1 : decide (((((x3_3 ++ (rdOf ByteArray.empty y103 ((rd_T27 l0 x4_1).f0))) ++ (⟨#[58]⟩ : ByteArray)) ++ t108) ++ (⟨#[58]⟩ : ByteArray)).size + t109.size ≤ 9223372036854775807) = true := decide_eq_true c19
                              try have c19b2 : (9223372036854775807 < ((((x3_3 ++ (rdOf ByteArray.empty y103 ((rd_T27 l0 x4_1).f0))) ++ (⟨#[58]⟩ : ByteArray)) ++ t108) ++ (⟨#[58]⟩ : ByteArray)).size + t109.size) = False := eq_false (Nat.not_lt.2 c19)
                              have c19z := eq_false (Nat.not_lt.2 c19)
                              try simp only [ByteArray.size_append, size58, size44] at c19z
                              have H' := Aside0.mk H
                              clear H
                              go_wp2_with (first | ((with_reducible refine gate_dst (N := 21) rfl ?_); refine Kd.R_lit Kd.string _ 9 ?hg (N := 21) ?hd (xs := ([(⟨#[]⟩ : ByteArray), (⟨#[117]⟩ : ByteArray), (⟨#[117]⟩ : ByteArray), (⟨#[103]⟩ : ByteArray), (⟨#[103]⟩ : ByteArray), (⟨#[109]⟩ : ByteArray), (⟨#[111]⟩ : ByteArray)] : List ByteArray)) (inner := [.string (⟨#[]⟩ : ByteArray), .string (⟨#[117]⟩ : ByteArray), .string (⟨#[117]⟩ : ByteArray), .string (⟨#[103]⟩ : ByteArray), .string (⟨#[103]⟩ : ByteArray), .string (⟨#[109]⟩ : ByteArray), .string (⟨#[111]⟩ : ByteArray)]) (ok := fun _ => True) (okp := fun _ => True) ?hr ?hp (fun _ hk => hk) trivial (Below.refl _ _) (Nat.le_refl _) (by simp) ?_; (case hd => rfl); (case hg => rfl); (case hr => first | (go_simp; done) | (go_simp; rfl)); (case hp => exact (Reps.one (show Kd.M Kd.string _ _ _ (⟨#[]⟩ : ByteArray) [.string (⟨#[]⟩ : ByteArray)] from rfl) (Reps.one (show Kd.M Kd.string _ _ _ (⟨#[117]⟩ : ByteArray) [.string (⟨#[117]⟩ : ByteArray)] from rfl) (Reps.one (show Kd.M Kd.string _ _ _ (⟨#[117]⟩ : ByteArray) [.string (⟨#[117]⟩ : ByteArray)] from rfl) (Reps.one (show Kd.M Kd.string _ _ _ (⟨#[103]⟩ : ByteArray) [.string (⟨#[103]⟩ : ByteArray)] from rfl) (Reps.one (show Kd.M Kd.string _ _ _ (⟨#[103]⟩ : ByteArray) [.string (⟨#[103]⟩ : ByteArray)] from rfl) (Reps.one (show Kd.M Kd.string _ _ _ (⟨#[109]⟩ : ByteArray) [.string (⟨#[109]⟩ : ByteArray)] from rfl) (Reps.one (show Kd.M Kd.string _ _ _ (⟨#[111]⟩ : ByteArray) [.string (⟨#[111]⟩ : ByteArray)] from rfl) (Reps.none _ _))))))))); intro v104 w20 ho21 hb hg_ hnew_; clear hg_ hnew_; (first | rw [← Ny103.out] at ho21 | (simp only [Int.reduceToNat] at ho21; rw [← Ny103.out] at ho21)); have n0_ := Aside0.mk (Kd.R_lower ho21 (below_size (by repeat (first | (with_reducible first | exact HB.out | apply below_alloc | apply pw_below_drewN | apply below_drew1 | refine below_set ?_ GE102.out) | exact HB.out)))); have n1_ := Aside0.mk (blk_below (g := gb102) (o := .cells #[.int .i64 ((rd_T27 l0 x4_1).f0), .int .i64 ((rd_T27 l0 x4_1).f1), .int .i64 ((rd_T27 l0 x4_1).f2)] 27 (0, 0)) (by (with_reducible repeat (first | refine blk_drewN ?_ _ | refine blk_drew ?_ | refine blk_alloc ?_ _)); exact BK102.out) hb); have n2_ := Aside0.mk (below_step (by repeat (first | (with_reducible first | exact HB.out | apply below_alloc | apply pw_below_drewN | apply below_drew1 | refine below_set ?_ GE102.out) | exact HB.out)) hb); clear BK102; clear HB; have HO105 := n0_; have BK102 := n1_; have HB := n2_; clear n0_ n1_ n2_; clear hb ho21; have hcz22_0 : w20.cell? ⟨gb102, 0, none⟩ = some (.int .i64 ((rd_T27 l0 x4_1).f0)) := (blk_cell BK102.out 0).trans rfl; have hcz22_1 : w20.cell? ⟨gb102, 1, none⟩ = some (.int .i64 ((rd_T27 l0 x4_1).f1)) := (blk_cell BK102.out 1).trans rfl; have hcz22_2 : w20.cell? ⟨gb102, 2, none⟩ = some (.int .i64 ((rd_T27 l0 x4_1).f2)) := (blk_cell BK102.out 2).trans rfl; have hfz22_0 := blk_frozen BK102.out 0; have hfz22_1 := blk_frozen BK102.out 1; have hfz22_2 := blk_frozen BK102.out 2; obtain ⟨Ao23, co23, eo23⟩ := Kd.R_slice HO105.out; subst eo23; have p106 : 0 ≤ (((rd_T27 l0 x4_1).f0) : Int) := of_decide_eq_true (by first | (with_reducible assumption) | assumption); have q106 : ((rd_T27 l0 x4_1).f0) < (y103.length : Int) := of_decide_eq_true (by first | (with_reducible assumption) | assumption); obtain ⟨ad106, e106, hx106_0⟩ := Kd.at_string (Kd.R_reads' HO105.out).2.2 ((rd_T27 l0 x4_1).f0) p106 q106; cases e106; replace p106 := eq_true p106; replace q106 := eq_true q106) | ((with_reducible refine gate_callee (f := 33) rfl ?_); refine goesL_ (some 29) rfl rfl Tryd.func33 (by kernel_rfl) rfl #[.agg #[.int .i64 ((rd_T27 l0 x4_1).f0), .int .i64 ((rd_T27 l0 x4_1).f1), .int .i64 ((rd_T27 l0 x4_1).f2)]] rfl (by (try simp only [List.map_toArray, List.map_cons, List.map_nil]); first | done | rfl | (simp only [List.length_drop, List.length_take]; rfl)) ?_; (with_reducible refine (PRefMay.gripsackref9_named.calls ((rd_T27 l0 x4_1).f0) ((rd_T27 l0 x4_1).f1) ((rd_T27 l0 x4_1).f2) true _ A13.out).mono ?_); rintro e w24 ⟨rfl, hb⟩; refine ⟨_, rfl, ?_⟩; have n0_ := Aside0.mk (Kd.R_below (by (with_reducible repeat (first | apply Kd.R_alloc | apply Kd.R_drewN | apply Kd.R_drew)); exact HO105.out) hb); have n1_ := Aside0.mk (blk_below (g := gb102) (o := .cells #[.int .i64 ((rd_T27 l0 x4_1).f0), .int .i64 ((rd_T27 l0 x4_1).f1), .int .i64 ((rd_T27 l0 x4_1).f2)] 27 (0, 0)) (by (with_reducible repeat (first | refine blk_drewN ?_ _ | refine blk_drew ?_ | refine blk_alloc ?_ _)); exact BK102.out) hb); have n2_ := Aside0.mk (below_step (by repeat (first | (with_reducible first | exact HB.out | apply below_alloc | apply pw_below_drewN | apply below_drew1 | refine below_set ?_ GE102.out) | exact HB.out)) hb); clear HO105; clear BK102; clear HB; have HO105 := n0_; have BK102 := n1_; have HB := n2_; clear n0_ n1_ n2_; (try clear hb); (try clear hb2); (try clear hk); (try clear hi); have hcz25_0 : w24.cell? ⟨gb102, 0, none⟩ = some (.int .i64 ((rd_T27 l0 x4_1).f0)) := (blk_cell BK102.out 0).trans rfl; have hcz25_1 : w24.cell? ⟨gb102, 1, none⟩ = some (.int .i64 ((rd_T27 l0 x4_1).f1)) := (blk_cell BK102.out 1).trans rfl; have hcz25_2 : w24.cell? ⟨gb102, 2, none⟩ = some (.int .i64 ((rd_T27 l0 x4_1).f2)) := (blk_cell BK102.out 2).trans rfl; have hfz25_0 := blk_frozen BK102.out 0; have hfz25_1 := blk_frozen BK102.out 1; have hfz25_2 := blk_frozen BK102.out 2) | ((with_reducible refine gate_callee (f := 36) rfl ?_); refine goesL_ (some 33) rfl rfl Tryd.func36 (by kernel_rfl) rfl #[.int .i64 ((rd_T27 l0 x4_1).f1)] rfl (by (try simp only [List.map_toArray, List.map_cons, List.map_nil]); first | done | rfl | (simp only [List.length_drop, List.length_take]; rfl)) ?_; (with_reducible refine (PAclR.gripsackref1_Digits.calls kj3 ((rd_T27 l0 x4_1).f1) t108 _ A15.out).mono ?_); rintro e w26 ⟨rfl, hb⟩; refine ⟨_, rfl, ?_⟩; have n0_ := Aside0.mk (Kd.R_below (by (with_reducible repeat (first | apply Kd.R_alloc | apply Kd.R_drewN | apply Kd.R_drew)); exact HO105.out) hb); have n1_ := Aside0.mk (blk_below (g := gb102) (o := .cells #[.int .i64 ((rd_T27 l0 x4_1).f0), .int .i64 ((rd_T27 l0 x4_1).f1), .int .i64 ((rd_T27 l0 x4_1).f2)] 27 (0, 0)) (by (with_reducible repeat (first | refine blk_drewN ?_ _ | refine blk_drew ?_ | refine blk_alloc ?_ _)); exact BK102.out) hb); have n2_ := Aside0.mk (below_step (by repeat (first | (with_reducible first | exact HB.out | apply below_alloc | apply pw_below_drewN | apply below_drew1 | refine below_set ?_ GE102.out) | exact HB.out)) hb); clear HO105; clear BK102; clear HB; have HO105 := n0_; have BK102 := n1_; have HB := n2_; clear n0_ n1_ n2_; (try clear hb); (try clear hb2); (try clear hk); (try clear hi); have hcz27_0 : w26.cell? ⟨gb102, 0, none⟩ = some (.int .i64 ((rd_T27 l0 x4_1).f0)) := (blk_cell BK102.out 0).trans rfl; have hcz27_1 : w26.cell? ⟨gb102, 1, none⟩ = some (.int .i64 ((rd_T27 l0 x4_1).f1)) := (blk_cell BK102.out 1).trans rfl; have hcz27_2 : w26.cell? ⟨gb102, 2, none⟩ = some (.int .i64 ((rd_T27 l0 x4_1).f2)) := (blk_cell BK102.out 2).trans rfl; have hfz27_0 := blk_frozen BK102.out 0; have hfz27_1 := blk_frozen BK102.out 1; have hfz27_2 := blk_frozen BK102.out 2) | ((with_reducible refine gate_callee (f := 37) rfl ?_); refine goesL_ (some 39) rfl rfl Tryd.func37 (by kernel_rfl) rfl #[.int .i64 ((rd_T27 l0 x4_1).f2)] rfl (by (try simp only [List.map_toArray, List.map_cons, List.map_nil]); first | done | rfl | (simp only [List.length_drop, List.length_take]; rfl)) ?_; (with_reducible refine (gripsackref9_rwx.calls ((rd_T27 l0 x4_1).f2) t109 _ A18.out).mono ?_); rintro e w28 ⟨rfl, hb⟩; refine ⟨_, rfl, ?_⟩; have n0_ := Aside0.mk (Kd.R_below (by (with_reducible repeat (first | apply Kd.R_alloc | apply Kd.R_drewN | apply Kd.R_drew)); exact HO105.out) hb); have n1_ := Aside0.mk (blk_below (g := gb102) (o := .cells #[.int .i64 ((rd_T27 l0 x4_1).f0), .int .i64 ((rd_T27 l0 x4_1).f1), .int .i64 ((rd_T27 l0 x4_1).f2)] 27 (0, 0)) (by (with_reducible repeat (first | refine blk_drewN ?_ _ | refine blk_drew ?_ | refine blk_alloc ?_ _)); exact BK102.out) hb); have n2_ := Aside0.mk (below_step (by repeat (first | (with_reducible first | exact HB.out | apply below_alloc | apply pw_below_drewN | apply below_drew1 | refine below_set ?_ GE102.out) | exact HB.out)) hb); clear HO105; clear BK102; clear HB; have HO105 := n0_; have BK102 := n1_; have HB := n2_; clear n0_ n1_ n2_; (try clear hb); (try clear hb2); (try clear hk); (try clear hi)))
                              go_roundg kj3
                              case measure => have := HK1.out; have := HJ3.out; omega
                              case rel => exact ⟨(((((x3_3 ++ (rdOf ByteArray.empty y103 ((rd_T27 l0 x4_1).f0))) ++ (⟨#[58]⟩ : ByteArray)) ++ t108) ++ (⟨#[58]⟩ : ByteArray)) ++ t109), (wrap64 (x4_1 + 1)), (by first | rfl | (simp; done) | (simp [*]; done)), (by first | rfl | (simp; done) | (simp [*]; done)), H', ⟨by have := HK1.out; have := HJ3.out; omega⟩, ⟨by repeat (first | (with_reducible first | exact HB.out | apply below_alloc | apply pw_below_drewN | apply below_drew1 | refine below_set ?_ GE102.out) | exact HB.out)⟩⟩
                            · rw [if_neg c19] at H
                              exact absurd H (by simp)
                          · rw [if_neg c17] at H
                            exact absurd H (by simp)
                        · rw [if_neg c16] at H
                          exact absurd H (by simp)
                      · replace c14 := Bool.eq_false_iff.mpr c14
                        subst c14
                        have H1 : (if ((x3_3 ++ (rdOf ByteArray.empty y103 ((rd_T27 l0 x4_1).f0))) ++ (⟨#[58]⟩ : ByteArray)).size + 1 ≤ 9223372036854775807 then ((gripsackref9_rwx.f ((rd_T27 l0 x4_1).f2)).bind fun t110 => (if (((x3_3 ++ (rdOf ByteArray.empty y103 ((rd_T27 l0 x4_1).f0))) ++ (⟨#[58]⟩ : ByteArray)) ++ (⟨#[58]⟩ : ByteArray)).size + t110.size ≤ 9223372036854775807 then (gripsackref9_TextAcl.l0 kj3 l0 ((((x3_3 ++ (rdOf ByteArray.empty y103 ((rd_T27 l0 x4_1).f0))) ++ (⟨#[58]⟩ : ByteArray)) ++ (⟨#[58]⟩ : ByteArray)) ++ t110) (wrap64 (x4_1 + 1))) else (none))) else (none)) = some r := by rw [if_neg (show ¬ (false = true) by decide)] at H; exact H
                        clear H
                        have H := H1
                        clear H1
                        by_cases c29 : ((x3_3 ++ (rdOf ByteArray.empty y103 ((rd_T27 l0 x4_1).f0))) ++ (⟨#[58]⟩ : ByteArray)).size + 1 ≤ 9223372036854775807
                        · rw [if_pos c29] at H
                          have c29b0 := eq_true c29
                          have c29b1 : decide (((x3_3 ++ (rdOf ByteArray.empty y103 ((rd_T27 l0 x4_1).f0))) ++ (⟨#[58]⟩ : ByteArray)).size + 1 ≤ 9223372036854775807) = true := decide_eq_true c29
                          try have c29b2 : (9223372036854775807 < ((x3_3 ++ (rdOf ByteArray.empty y103 ((rd_T27 l0 x4_1).f0))) ++ (⟨#[58]⟩ : ByteArray)).size + 1) = False := eq_false (Nat.not_lt.2 c29)
                          have c29z := eq_false (Nat.not_lt.2 c29)
                          try simp only [ByteArray.size_append, size58, size44] at c29z
                          replace H := Option.bind_eq_some_iff.mp H
                          obtain ⟨t110, A300, H⟩ := H
                          replace H : (if (((x3_3 ++ (rdOf ByteArray.empty y103 ((rd_T27 l0 x4_1).f0))) ++ (⟨#[58]⟩ : ByteArray)) ++ (⟨#[58]⟩ : ByteArray)).size + t110.size ≤ 9223372036854775807 then (gripsackref9_TextAcl.l0 kj3 l0 ((((x3_3 ++ (rdOf ByteArray.empty y103 ((rd_T27 l0 x4_1).f0))) ++ (⟨#[58]⟩ : ByteArray)) ++ (⟨#[58]⟩ : ByteArray)) ++ t110) (wrap64 (x4_1 + 1))) else (none)) = some r := H
                          have A30 := Aside0.mk A300
                          clear A300
                          by_cases c31 : (((x3_3 ++ (rdOf ByteArray.empty y103 ((rd_T27 l0 x4_1).f0))) ++ (⟨#[58]⟩ : ByteArray)) ++ (⟨#[58]⟩ : ByteArray)).size + t110.size ≤ 9223372036854775807
                          · rw [if_pos c31] at H
                            have c31b0 := eq_true c31
                            have c31b1 : decide ((((x3_3 ++ (rdOf ByteArray.empty y103 ((rd_T27 l0 x4_1).f0))) ++ (⟨#[58]⟩ : ByteArray)) ++ (⟨#[58]⟩ : ByteArray)).size + t110.size ≤ 9223372036854775807) = true := decide_eq_true c31
                            try have c31b2 : (9223372036854775807 < (((x3_3 ++ (rdOf ByteArray.empty y103 ((rd_T27 l0 x4_1).f0))) ++ (⟨#[58]⟩ : ByteArray)) ++ (⟨#[58]⟩ : ByteArray)).size + t110.size) = False := eq_false (Nat.not_lt.2 c31)
                            have c31z := eq_false (Nat.not_lt.2 c31)
                            try simp only [ByteArray.size_append, size58, size44] at c31z
                            have H' := Aside0.mk H
                            clear H
                            go_wp2_with (first | ((with_reducible refine gate_dst (N := 21) rfl ?_); refine Kd.R_lit Kd.string _ 9 ?hg (N := 21) ?hd (xs := ([(⟨#[]⟩ : ByteArray), (⟨#[117]⟩ : ByteArray), (⟨#[117]⟩ : ByteArray), (⟨#[103]⟩ : ByteArray), (⟨#[103]⟩ : ByteArray), (⟨#[109]⟩ : ByteArray), (⟨#[111]⟩ : ByteArray)] : List ByteArray)) (inner := [.string (⟨#[]⟩ : ByteArray), .string (⟨#[117]⟩ : ByteArray), .string (⟨#[117]⟩ : ByteArray), .string (⟨#[103]⟩ : ByteArray), .string (⟨#[103]⟩ : ByteArray), .string (⟨#[109]⟩ : ByteArray), .string (⟨#[111]⟩ : ByteArray)]) (ok := fun _ => True) (okp := fun _ => True) ?hr ?hp (fun _ hk => hk) trivial (Below.refl _ _) (Nat.le_refl _) (by simp) ?_; (case hd => rfl); (case hg => rfl); (case hr => first | (go_simp; done) | (go_simp; rfl)); (case hp => exact (Reps.one (show Kd.M Kd.string _ _ _ (⟨#[]⟩ : ByteArray) [.string (⟨#[]⟩ : ByteArray)] from rfl) (Reps.one (show Kd.M Kd.string _ _ _ (⟨#[117]⟩ : ByteArray) [.string (⟨#[117]⟩ : ByteArray)] from rfl) (Reps.one (show Kd.M Kd.string _ _ _ (⟨#[117]⟩ : ByteArray) [.string (⟨#[117]⟩ : ByteArray)] from rfl) (Reps.one (show Kd.M Kd.string _ _ _ (⟨#[103]⟩ : ByteArray) [.string (⟨#[103]⟩ : ByteArray)] from rfl) (Reps.one (show Kd.M Kd.string _ _ _ (⟨#[103]⟩ : ByteArray) [.string (⟨#[103]⟩ : ByteArray)] from rfl) (Reps.one (show Kd.M Kd.string _ _ _ (⟨#[109]⟩ : ByteArray) [.string (⟨#[109]⟩ : ByteArray)] from rfl) (Reps.one (show Kd.M Kd.string _ _ _ (⟨#[111]⟩ : ByteArray) [.string (⟨#[111]⟩ : ByteArray)] from rfl) (Reps.none _ _))))))))); intro v104 w32 ho33 hb hg_ hnew_; clear hg_ hnew_; (first | rw [← Ny103.out] at ho33 | (simp only [Int.reduceToNat] at ho33; rw [← Ny103.out] at ho33)); have n0_ := Aside0.mk (Kd.R_lower ho33 (below_size (by repeat (first | (with_reducible first | exact HB.out | apply below_alloc | apply pw_below_drewN | apply below_drew1 | refine below_set ?_ GE102.out) | exact HB.out)))); have n1_ := Aside0.mk (blk_below (g := gb102) (o := .cells #[.int .i64 ((rd_T27 l0 x4_1).f0), .int .i64 ((rd_T27 l0 x4_1).f1), .int .i64 ((rd_T27 l0 x4_1).f2)] 27 (0, 0)) (by (with_reducible repeat (first | refine blk_drewN ?_ _ | refine blk_drew ?_ | refine blk_alloc ?_ _)); exact BK102.out) hb); have n2_ := Aside0.mk (below_step (by repeat (first | (with_reducible first | exact HB.out | apply below_alloc | apply pw_below_drewN | apply below_drew1 | refine below_set ?_ GE102.out) | exact HB.out)) hb); clear BK102; clear HB; have HO105 := n0_; have BK102 := n1_; have HB := n2_; clear n0_ n1_ n2_; clear hb ho33; have hcz34_0 : w32.cell? ⟨gb102, 0, none⟩ = some (.int .i64 ((rd_T27 l0 x4_1).f0)) := (blk_cell BK102.out 0).trans rfl; have hcz34_1 : w32.cell? ⟨gb102, 1, none⟩ = some (.int .i64 ((rd_T27 l0 x4_1).f1)) := (blk_cell BK102.out 1).trans rfl; have hcz34_2 : w32.cell? ⟨gb102, 2, none⟩ = some (.int .i64 ((rd_T27 l0 x4_1).f2)) := (blk_cell BK102.out 2).trans rfl; have hfz34_0 := blk_frozen BK102.out 0; have hfz34_1 := blk_frozen BK102.out 1; have hfz34_2 := blk_frozen BK102.out 2; obtain ⟨Ao35, co35, eo35⟩ := Kd.R_slice HO105.out; subst eo35; have p106 : 0 ≤ (((rd_T27 l0 x4_1).f0) : Int) := of_decide_eq_true (by first | (with_reducible assumption) | assumption); have q106 : ((rd_T27 l0 x4_1).f0) < (y103.length : Int) := of_decide_eq_true (by first | (with_reducible assumption) | assumption); obtain ⟨ad106, e106, hx106_0⟩ := Kd.at_string (Kd.R_reads' HO105.out).2.2 ((rd_T27 l0 x4_1).f0) p106 q106; cases e106; replace p106 := eq_true p106; replace q106 := eq_true q106) | ((with_reducible refine gate_callee (f := 33) rfl ?_); refine goesL_ (some 29) rfl rfl Tryd.func33 (by kernel_rfl) rfl #[.agg #[.int .i64 ((rd_T27 l0 x4_1).f0), .int .i64 ((rd_T27 l0 x4_1).f1), .int .i64 ((rd_T27 l0 x4_1).f2)]] rfl (by (try simp only [List.map_toArray, List.map_cons, List.map_nil]); first | done | rfl | (simp only [List.length_drop, List.length_take]; rfl)) ?_; (with_reducible refine (PRefMay.gripsackref9_named.calls ((rd_T27 l0 x4_1).f0) ((rd_T27 l0 x4_1).f1) ((rd_T27 l0 x4_1).f2) false _ A13.out).mono ?_); rintro e w36 ⟨rfl, hb⟩; refine ⟨_, rfl, ?_⟩; have n0_ := Aside0.mk (Kd.R_below (by (with_reducible repeat (first | apply Kd.R_alloc | apply Kd.R_drewN | apply Kd.R_drew)); exact HO105.out) hb); have n1_ := Aside0.mk (blk_below (g := gb102) (o := .cells #[.int .i64 ((rd_T27 l0 x4_1).f0), .int .i64 ((rd_T27 l0 x4_1).f1), .int .i64 ((rd_T27 l0 x4_1).f2)] 27 (0, 0)) (by (with_reducible repeat (first | refine blk_drewN ?_ _ | refine blk_drew ?_ | refine blk_alloc ?_ _)); exact BK102.out) hb); have n2_ := Aside0.mk (below_step (by repeat (first | (with_reducible first | exact HB.out | apply below_alloc | apply pw_below_drewN | apply below_drew1 | refine below_set ?_ GE102.out) | exact HB.out)) hb); clear HO105; clear BK102; clear HB; have HO105 := n0_; have BK102 := n1_; have HB := n2_; clear n0_ n1_ n2_; (try clear hb); (try clear hb2); (try clear hk); (try clear hi); have hcz37_0 : w36.cell? ⟨gb102, 0, none⟩ = some (.int .i64 ((rd_T27 l0 x4_1).f0)) := (blk_cell BK102.out 0).trans rfl; have hcz37_1 : w36.cell? ⟨gb102, 1, none⟩ = some (.int .i64 ((rd_T27 l0 x4_1).f1)) := (blk_cell BK102.out 1).trans rfl; have hcz37_2 : w36.cell? ⟨gb102, 2, none⟩ = some (.int .i64 ((rd_T27 l0 x4_1).f2)) := (blk_cell BK102.out 2).trans rfl; have hfz37_0 := blk_frozen BK102.out 0; have hfz37_1 := blk_frozen BK102.out 1; have hfz37_2 := blk_frozen BK102.out 2) | ((with_reducible refine gate_callee (f := 37) rfl ?_); refine goesL_ (some 39) rfl rfl Tryd.func37 (by kernel_rfl) rfl #[.int .i64 ((rd_T27 l0 x4_1).f2)] rfl (by (try simp only [List.map_toArray, List.map_cons, List.map_nil]); first | done | rfl | (simp only [List.length_drop, List.length_take]; rfl)) ?_; (with_reducible refine (gripsackref9_rwx.calls ((rd_T27 l0 x4_1).f2) t110 _ A30.out).mono ?_); rintro e w38 ⟨rfl, hb⟩; refine ⟨_, rfl, ?_⟩; have n0_ := Aside0.mk (Kd.R_below (by (with_reducible repeat (first | apply Kd.R_alloc | apply Kd.R_drewN | apply Kd.R_drew)); exact HO105.out) hb); have n1_ := Aside0.mk (blk_below (g := gb102) (o := .cells #[.int .i64 ((rd_T27 l0 x4_1).f0), .int .i64 ((rd_T27 l0 x4_1).f1), .int .i64 ((rd_T27 l0 x4_1).f2)] 27 (0, 0)) (by (with_reducible repeat (first | refine blk_drewN ?_ _ | refine blk_drew ?_ | refine blk_alloc ?_ _)); exact BK102.out) hb); have n2_ := Aside0.mk (below_step (by repeat (first | (with_reducible first | exact HB.out | apply below_alloc | apply pw_below_drewN | apply below_drew1 | refine below_set ?_ GE102.out) | exact HB.out)) hb); clear HO105; clear BK102; clear HB; have HO105 := n0_; have BK102 := n1_; have HB := n2_; clear n0_ n1_ n2_; (try clear hb); (try clear hb2); (try clear hk); (try clear hi)))
                            go_roundg kj3
                            case measure => have := HK1.out; have := HJ3.out; omega
                            case rel => exact ⟨((((x3_3 ++ (rdOf ByteArray.empty y103 ((rd_T27 l0 x4_1).f0))) ++ (⟨#[58]⟩ : ByteArray)) ++ (⟨#[58]⟩ : ByteArray)) ++ t110), (wrap64 (x4_1 + 1)), (by first | rfl | (simp; done) | (simp [*]; done)), (by first | rfl | (simp; done) | (simp [*]; done)), H', ⟨by have := HK1.out; have := HJ3.out; omega⟩, ⟨by repeat (first | (with_reducible first | exact HB.out | apply below_alloc | apply pw_below_drewN | apply below_drew1 | refine below_set ?_ GE102.out) | exact HB.out)⟩⟩
                          · rw [if_neg c31] at H
                            exact absurd H (by simp)
                        · rw [if_neg c29] at H
                          exact absurd H (by simp)
                    · rw [if_neg c12] at H
                      exact absurd H (by simp)
                  · rw [if_neg c11] at H
                    exact absurd H (by simp)
                · rw [if_neg c10] at H
                  exact absurd H (by simp)
              · rw [if_neg c9] at H
                exact absurd H (by simp)
        · rw [if_neg c3] at H
          exact absurd H (by simp)
      · rw [if_neg c2] at H
        have c2b0 : decide (x4_1 < (l0.length : Int)) = false := decide_eq_false c2
        clear c2
        obtain rfl := Option.some.inj H
        go_wp2
        go_ret
        exact ⟨by first | rfl | (simp [errW_none, errW_some] <;> rfl) | (simp [*, errW_none, errW_some] <;> rfl), by repeat (first | (with_reducible first | exact HB.out | apply below_alloc | apply pw_below_drewN | apply below_drew1) | exact HB.out)⟩

end Go.Proofs.YtejgnnhmeolphaaDoor.PRefText
