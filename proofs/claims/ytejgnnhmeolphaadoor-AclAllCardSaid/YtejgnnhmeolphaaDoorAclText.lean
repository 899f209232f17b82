/- acl.Text: a list's text. -/
import Derived.Test.YtejgnnhmeolphaaDoorAclMode
import Derived.Test.YtejgnnhmeolphaaDoorWorld
import Derived.Lib.ItoaLen
set_option linter.unusedVariables false
set_option linter.unusedSimpArgs false
namespace Go.Proofs.YtejgnnhmeolphaaDoor
open Go.RowKit Go.Proofs.YtejgnnhmeolphaaDoorW.PrintWords Go.Proofs.YtejgnnhmeolphaaDoor.PAclR

def headsV : Value := .agg #[.string ⟨#[]⟩, .string ⟨#[117]⟩, .string ⟨#[117]⟩, .string ⟨#[103]⟩, .string ⟨#[103]⟩, .string ⟨#[109]⟩, .string ⟨#[111]⟩]
theorem heads_any (w : World) : Calls Tryd.prog 30 #[] w fun e w' => e = .returned headsV ∧ Below w.heap.size w w' := by
  have HH : Aside0 (headsV = .agg #[.string ⟨#[]⟩, .string ⟨#[117]⟩, .string ⟨#[117]⟩, .string ⟨#[103]⟩, .string ⟨#[103]⟩, .string ⟨#[109]⟩, .string ⟨#[111]⟩]) := ⟨rfl⟩
  go_enter Tryd.func30, Tryd.ntmps30
  go_wp2
  refine bodyPost_ret (v := .agg #[.string ⟨#[]⟩, .string ⟨#[117]⟩, .string ⟨#[117]⟩, .string ⟨#[103]⟩, .string ⟨#[103]⟩, .string ⟨#[109]⟩, .string ⟨#[111]⟩]) (by simp [results, Tryd.results30, go_sem]) rfl ⟨by rw [HH.out], by go_grown⟩

theorem named_any (t : Int) (w : World) : Calls Tryd.prog 28 #[.int .i64 t] w fun e w' => e = .returned (.bool (namedB t)) ∧ w = w' := by
  have e2 : (t == 2) = decide (t = 2) := rfl
  have HN : Aside0 (namedB t = ((t == 2) || (t == 4))) := ⟨rfl⟩
  by_cases h : t = 2
  · subst h
    go_enter Tryd.func28, Tryd.ntmps28
    go_wp2
    go_ret
    exact ⟨by rw [HN.out]; rfl, rfl⟩
  · have e3 : (t == 2) = false := by simpa using h
    clear e2
    go_enter Tryd.func28, Tryd.ntmps28
    go_wp2
    go_ret
    exact ⟨by rw [HN.out, e3]; rfl, rfl⟩

/-- The letters of three rights, by the program's loop. -/
def rwxP (p : Int) : List UInt8 := [if Go.bits .and .i64 p 4 = 0 then 45 else 114, if Go.bits .and .i64 (p * 2) 4 = 0 then 45 else 119, if Go.bits .and .i64 (p * 4) 4 = 0 then 45 else 120]
def headOf (t : Int) : List UInt8 := if t = 1 then [117] else if t = 2 then [117] else if t = 3 then [103] else if t = 4 then [103] else if t = 5 then [109] else [111]
/-- A part's text. -/
def aceText (a : Ace) : List UInt8 := headOf a.f0 ++ [58] ++ (if namedB a.f0 then Lib.itoa a.f1 else []) ++ [58] ++ rwxP a.f2

theorem heads_i1 (W : World) : (Instr.index 58 headsV (.int .i64 1)).run Tryd.prog W = .ok (.string ⟨#[117]⟩) W := by kernel_rfl
theorem heads_i2 (W : World) : (Instr.index 58 headsV (.int .i64 2)).run Tryd.prog W = .ok (.string ⟨#[117]⟩) W := by kernel_rfl
theorem heads_i3 (W : World) : (Instr.index 58 headsV (.int .i64 3)).run Tryd.prog W = .ok (.string ⟨#[103]⟩) W := by kernel_rfl
theorem heads_i4 (W : World) : (Instr.index 58 headsV (.int .i64 4)).run Tryd.prog W = .ok (.string ⟨#[103]⟩) W := by kernel_rfl
theorem heads_i5 (W : World) : (Instr.index 58 headsV (.int .i64 5)).run Tryd.prog W = .ok (.string ⟨#[109]⟩) W := by kernel_rfl
theorem heads_i6 (W : World) : (Instr.index 58 headsV (.int .i64 6)).run Tryd.prog W = .ok (.string ⟨#[111]⟩) W := by kernel_rfl
theorem heads_index (t : Int) (W : World) (h : 1 ≤ t ∧ t ≤ 6) : (Instr.index 58 headsV (.int .i64 t)).run Tryd.prog W = .ok (.string (mkS (headOf t))) W := by
  have : t = 1 ∨ t = 2 ∨ t = 3 ∨ t = 4 ∨ t = 5 ∨ t = 6 := by omega
  rcases this with rfl | rfl | rfl | rfl | rfl | rfl
  · exact heads_i1 W
  · exact heads_i2 W
  · exact heads_i3 W
  · exact heads_i4 W
  · exact heads_i5 W
  · exact heads_i6 W
theorem three_any (W : World) (g : Nat) (a b c : Int) (h0 : W.cell? ⟨g, 0, none⟩ = some (.int .u8 a)) (h1 : W.cell? ⟨g, 1, none⟩ = some (.int .u8 b)) (h2 : W.cell? ⟨g, 2, none⟩ = some (.int .u8 c)) :
    (convert 22 9 (.slice (some ⟨g, 0, none⟩) 3 3)).run Tryd.prog W = .ok (.string (strOfNums [a, b, c])) W := by
  refine run_convert_bytes_arg (P := Tryd.prog) _ 22 5 Tryd.underlying22 Tryd.underlying5 g 0 3 3 [a, b, c] rfl (fun i hi => ?_) 9 Tryd.underlying9
  have : i = 0 ∨ i = 1 ∨ i = 2 := by omega
  rcases this with rfl | rfl | rfl <;> simp [h0, h1, h2]
theorem str_add {P : Program} (a b : List UInt8) (s : ByteArray) (hs : s = mkS b) (h : a.length + b.length ≤ 9223372036854775807) (W : World) : (Op.stringOp .add (mkS a) s).run P W = .ok (.string (mkS (a ++ b))) W := by
  subst hs
  rw [run_string_add_sum _ _ _ (by simp; exact h), append_mkS]
theorem headOf_len (t : Int) : (headOf t).length = 1 := by unfold headOf; repeat (first | rfl | split)

theorem aceText_le (a : Ace) : (aceText a).length ≤ 6 + (Lib.itoa a.f1).length := by
  have := headOf_len a.f0
  unfold aceText rwxP
  split <;> simp <;> omega
theorem join_le (xs : List (List UInt8)) (n : Nat) (h : ∀ x ∈ xs, x.length ≤ n) : (Lib.join xs [44]).length ≤ xs.length * (n + 1) := by
  cases xs with
  | nil => simp [Lib.join]
  | cons x r =>
    rw [Lib.join_length]
    have : ∀ ys : List (List UInt8), (∀ y ∈ ys, y.length ≤ n) → Lib.lens ys ≤ ys.length * n := by
      intro ys
      induction ys with
      | nil => intro _; simp [Lib.lens]
      | cons y ys ih =>
        intro hy
        have h1 := hy y (by simp)
        have h2 := ih (fun z hz => hy z (by simp [hz]))
        simp only [Lib.lens, List.length_cons, Nat.add_mul, Nat.one_mul, List.map_cons, List.sum_cons] at *
        omega
    have h2 := this (x :: r) h
    rw [Nat.mul_add]
    simp at h2 ⊢
    omega
theorem heap_lt {w : World} {g : Nat} {o : Obj} (h : w.heap[g]? = some o) : g < w.heap.size := by
  by_cases hg : g < w.heap.size
  · exact hg
  · rw [Array.getElem?_eq_none (by omega)] at h; cases h

set_option maxHeartbeats 2000000 in
set_option maxRecDepth 100000 in
theorem aclText_any (A : Option Addr) (c : Nat) (l : List Ace) (w : World) (hG : Good w) (hr : Kd.C k27 w A l.length l) (hc : l.length ≤ c) (hl : l.length ≤ 1000) (hl0 : 0 < l.length)
    (hb : ∀ a ∈ l, 1 ≤ a.f0 ∧ a.f0 ≤ 6 ∧ 0 ≤ a.f1 ∧ a.f1 ≤ 2147483647 ∧ 0 ≤ a.f2 ∧ a.f2 ≤ 7) :
    Calls Tryd.prog 13 #[.slice A l.length c] w fun e w' => e = .returned (.string (mkS (Lib.join (l.map aceText) [44]))) ∧ Below w.heap.size w w' := by
  have HR := Aside0.mk hr
  have HG := Aside0.mk hG
  have HBD := Aside0.mk hb
  clear hr hG hb
  go_enter Tryd.func13, Tryd.ntmps13
  go_wp2_with fail
  go_loopw [3, 11] (fun o v wr => ∃ i : Nat, i ≤ l.length ∧ v = .int .i64 i ∧ Aside0 (wr.ownsRow w.heap.size 9 1 o i (((l.take i).map aceText).map fun x => Value.string (mkS x))) ∧ Aside0 (Below w.heap.size w wr)) (fun _ v _ => l.length - (intOf v).toNat)
  case atStart => exact ⟨0, Nat.zero_le _, rfl, ⟨by simp; exact own_nil _ _ _ _⟩, ⟨Below.refl _ _⟩⟩
  case round =>
    obtain ⟨i, hi, rfl, HO, HB⟩ := hrel
    by_cases hlt : i < l.length
    · obtain ⟨ad, rfl, h0, h1, h2⟩ := at_T27 (Kd.C_below HR.out HB.out) (i : Int) (by omega) (by omega)
      obtain ⟨⟨t, id, pm⟩, ha⟩ : ∃ a, rd_T27 l (i : Int) = a := ⟨_, rfl⟩
      rw [ha, Int.toNat_natCast] at h0 h1 h2
      have HA := Aside0.mk ha
      clear ha
      have hbd := HBD.out ⟨t, id, pm⟩ (by
        have := drop_at HA hlt
        exact List.mem_of_mem_drop (by rw [this]; simp))
      simp only at hbd
      by_cases hn : namedB t = true
      · go_wp2_with (first | (go_at_call 28; refine (named_any _ _).mono ?_; rintro e w1 ⟨rfl, rfl⟩))
        have hbw := below_alloc HB.out (.cells #[.int .i64 t, .int .i64 id, .int .i64 pm] 27)
        refine (itoa_any id _ (HG.out.below hbw) (by omega) (by omega)).mono ?_
        rintro e w1 ⟨rfl, hb1⟩
        obtain ⟨hcq, hfq, hzq⟩ := bcell hb1
        simp at hcq hfq hzq
        have hlt1 : wr.heap.size < w1.heap.size := by omega
        have hne1 : ¬ wr.heap.size = w1.heap.size := by omega
        have q0 : w1.cell? ⟨wr.heap.size, 0, none⟩ = some (.int .i64 t) := by rw [hcq _ _ (by omega)]; simp [go_sem]
        have q1 : w1.cell? ⟨wr.heap.size, 1, none⟩ = some (.int .i64 id) := by rw [hcq _ _ (by omega)]; simp [go_sem]
        have q2 : w1.cell? ⟨wr.heap.size, 2, none⟩ = some (.int .i64 pm) := by rw [hcq _ _ (by omega)]; simp [go_sem]
        clear hcq hfq
        have hcv := Lib.run_convert_bytes_const (P := Tryd.prog) w1 22 5 #[.int .u8 114, .int .u8 119, .int .u8 120] 3 3 Tryd.underlying22 Tryd.underlying5
        go_wp2_with fail
        obtain ⟨L0, hL0⟩ : ∃ L0 : Int, (if Go.bits .and .i64 pm 4 = 0 then 45 else 114) = L0 := ⟨_, rfl⟩
        obtain ⟨L1, hL1⟩ : ∃ L1 : Int, (if Go.bits .and .i64 (pm * 2) 4 = 0 then 45 else 119) = L1 := ⟨_, rfl⟩
        obtain ⟨L2, hL2⟩ : ∃ L2 : Int, (if Go.bits .and .i64 (pm * 4) 4 = 0 then 45 else 120) = L2 := ⟨_, rfl⟩
        have HL0 := Aside0.mk hL0
        have HL1 := Aside0.mk hL1
        have HL2 := Aside0.mk hL2
        clear hL0 hL1 hL2
        go_loopw [25] (fun v w2 => ∃ j : Nat, j ≤ 3 ∧ v = .int .i64 j ∧ w2 = w1.alloc (.cells #[.int .u8 (if 0 < j then L0 else 114), .int .u8 (if 1 < j then L1 else 119), .int .u8 (if 2 < j then L2 else 120)] 5 (3, 4))) (fun v _ => 3 - (intOf v).toNat)
        case atStart => exact ⟨0, by omega, rfl, rfl⟩
        case round =>
          obtain ⟨j, hj, rfl, rfl⟩ := hrel
          obtain rfl | rfl | rfl | rfl : j = 0 ∨ j = 1 ∨ j = 2 ∨ j = 3 := by omega
          · go_wp2_with fail
            · have hx : (Go.bits .and .i64 pm 4 == 0) = true := by assumption
              exact ⟨⟨1, by omega, rfl, by simp [← HL0.out, beq_iff_eq.1 hx]⟩, by simp [intOf]⟩
            · have hx : (Go.bits .and .i64 pm 4 == 0) = false := by assumption
              exact ⟨⟨1, by omega, rfl, by simp [← HL0.out, beq_eq_false_iff_ne.1 hx]⟩, by simp [intOf]⟩
          · go_wp2_with fail
            · have hx : (Go.bits .and .i64 (pm * 2) 4 == 0) = true := by assumption
              exact ⟨⟨2, by omega, rfl, by simp [← HL1.out, beq_iff_eq.1 hx]⟩, by simp [intOf]⟩
            · have hx : (Go.bits .and .i64 (pm * 2) 4 == 0) = false := by assumption
              exact ⟨⟨2, by omega, rfl, by simp [← HL1.out, beq_eq_false_iff_ne.1 hx]⟩, by simp [intOf]⟩
          · go_wp2_with fail
            · have hx : (Go.bits .and .i64 (pm * 4) 4 == 0) = true := by assumption
              exact ⟨⟨3, by omega, rfl, by simp [← HL2.out, beq_iff_eq.1 hx]⟩, by simp [intOf]⟩
            · have hx : (Go.bits .and .i64 (pm * 4) 4 == 0) = false := by assumption
              exact ⟨⟨3, by omega, rfl, by simp [← HL2.out, beq_eq_false_iff_ne.1 hx]⟩, by simp [intOf]⟩
          · go_wp2_with fail
            have HW := Aside0.mk (below_next (below_next hbw hb1) (below_alloc (Below.refl w1.heap.size w1) (.cells #[.int .u8 L0, .int .u8 L1, .int .u8 L2] 5 (3, 4))))
            have HO3 := Aside0.mk (own_alloc (pw_own_below (own_alloc HO.out (.cells #[.int .i64 t, .int .i64 id, .int .i64 pm] 27)) hb1) (.cells #[.int .u8 L0, .int .u8 L1, .int .u8 L2] 5 (3, 4)))
            have x0 : (w1.alloc (.cells #[.int .u8 L0, .int .u8 L1, .int .u8 L2] 5 (3, 4))).cell? ⟨wr.heap.size, 0, none⟩ = some (.int .i64 t) := by simp [go_sem, hlt1, q0]
            have y0 : (w1.alloc (.cells #[.int .u8 L0, .int .u8 L1, .int .u8 L2] 5 (3, 4))).cell? ⟨w1.heap.size, 0, none⟩ = some (.int .u8 L0) := by simp [go_sem]
            have y1 : (w1.alloc (.cells #[.int .u8 L0, .int .u8 L1, .int .u8 L2] 5 (3, 4))).cell? ⟨w1.heap.size, 1, none⟩ = some (.int .u8 L1) := by simp [go_sem]
            have y2 : (w1.alloc (.cells #[.int .u8 L0, .int .u8 L1, .int .u8 L2] 5 (3, 4))).cell? ⟨w1.heap.size, 2, none⟩ = some (.int .u8 L2) := by simp [go_sem]
            have hz3 : (w1.alloc (.cells #[.int .u8 L0, .int .u8 L1, .int .u8 L2] 5 (3, 4))).heap.size = w1.heap.size + 1 := by simp
            generalize w1.alloc (.cells #[.int .u8 L0, .int .u8 L1, .int .u8 L2] 5 (3, 4)) = w3 at HW HO3 x0 y0 y1 y2 hz3 ⊢
            obtain ⟨i0, hi0, hz0, hz1, hz2⟩ := info_parts info9
            have hix := fun W => heads_index t W ⟨hbd.1, hbd.2.1⟩
            have hbk := fun W => three_any W w1.heap.size L0 L1 L2
            have n1 := headOf_len t
            have n2 := Lib.itoa_length_le id (by omega) (by omega)
            have hbk2 : ∀ W : World, W.cell? ⟨w1.heap.size, 0, none⟩ = some (.int .u8 L0) → W.cell? ⟨w1.heap.size, 1, none⟩ = some (.int .u8 L1) → W.cell? ⟨w1.heap.size, 2, none⟩ = some (.int .u8 L2) → (convert 22 9 (.slice (some ⟨w1.heap.size, 0, none⟩) 3 3)).run Tryd.prog W = .ok (.string (mkS (rwxP pm))) W := fun W e0 e1 e2 => by
              rw [hbk W e0 e1 e2, ← HL0.out, ← HL1.out, ← HL2.out]
              unfold strOfNums mkS rwxP
              simp only [List.map_cons, List.map_nil]
              congr 3
              simp only [apply_ite]
              rfl
            clear hbk
            have hc1 := fun W => str_add (P := Tryd.prog) (headOf t) [58] ⟨#[58]⟩ rfl (by simp; omega) W
            have hc2 := fun W => str_add (P := Tryd.prog) (headOf t ++ [58]) (Lib.itoa id) _ rfl (by simp; omega) W
            have hc3 := fun W => str_add (P := Tryd.prog) (headOf t ++ [58] ++ Lib.itoa id) [58] ⟨#[58]⟩ rfl (by simp; omega) W
            have hc4 := fun W => str_add (P := Tryd.prog) (headOf t ++ [58] ++ Lib.itoa id ++ [58]) (rwxP pm) _ rfl (by simp [rwxP]; omega) W
            generalize mkS (headOf t ++ [58]) = S1 at hc1 hc2
            generalize mkS (headOf t ++ [58] ++ Lib.itoa id) = S2 at hc2 hc3
            generalize mkS (headOf t ++ [58] ++ Lib.itoa id ++ [58]) = S3 at hc3 hc4
            have hac : headOf t ++ [58] ++ Lib.itoa id ++ [58] ++ rwxP pm = aceText ⟨t, id, pm⟩ := by
              unfold aceText; rw [if_pos hn]
            rw [hac] at hc4
            obtain ⟨S4, hS4⟩ : ∃ S, S = mkS (aceText ⟨t, id, pm⟩) := ⟨_, rfl⟩
            rw [← hS4] at hc4
            have HS4 := Aside0.mk hS4
            clear hS4 hac n1 n2
            clear h0 h1 h2 q0 q1 q2 hcv
            have hsz3 : w.heap.size ≤ w3.heap.size := HW.out.size
            have hnb : ∀ g, wr.heap.size ≤ g → some g ≠ u3.ownBlock := fun g hg he => by have := own_lt HO.out g he.symm; omega
            go_region_held3 (fun w' => w'.cell? ⟨wr.heap.size, 0, none⟩ = some (.int .i64 t) ∧ w'.cell? ⟨w1.heap.size, 0, none⟩ = some (.int .u8 L0) ∧ w'.cell? ⟨w1.heap.size, 1, none⟩ = some (.int .u8 L1) ∧ w'.cell? ⟨w1.heap.size, 2, none⟩ = some (.int .u8 L2))
              (first
                | go_keep
                | (go_split_ands
                   refine ⟨?_, ?_, ?_, ?_⟩
                   · (rw [hb4.cell (by simp; omega)]; assumption)
                   · (rw [hb4.cell (by simp; omega)]; assumption)
                   · (rw [hb4.cell (by simp; omega)]; assumption)
                   · (rw [hb4.cell (by simp; omega)]; assumption))
                | (go_split_ands
                   refine ⟨?_, ?_, ?_, ?_⟩
                   · (rw [hgrow5.cell_far _ (by simp at hb4s ⊢; omega) (hnb _ (by simp <;> omega))]; assumption)
                   · (rw [hgrow5.cell_far _ (by simp at hb4s ⊢; omega) (hnb _ (by simp <;> omega))]; assumption)
                   · (rw [hgrow5.cell_far _ (by simp at hb4s ⊢; omega) (hnb _ (by simp <;> omega))]; assumption)
                   · (rw [hgrow5.cell_far _ (by simp at hb4s ⊢; omega) (hnb _ (by simp <;> omega))]; assumption)))
              ((first
                | (go_at_call 30; refine (heads_any _).mono ?_; rintro e w4 ⟨rfl, hb4⟩)
                | (refine step_append_lies (o := ⟨some 51, _, _, _, _, _⟩) _ (by rfl) _ _ _ (by rfl) w.heap.size 9 i0 _ 1 16 Tryd.underlying28 hi0 hz0 hz1 hz2 rfl (by omega) u3 i _ (by rfl) (own_alloc (pw_own_below (World.ownsRow.drew HO3.out) hb4) _) _ 1 1 [.string S4] (by rfl) (by rfl) (World.news_of_block (cs := #[.string S4]) (t := 9) (fr := (0, 0)) (heap_alloc_new _ _)) (by simp [Value.oneCell']) (by omega) (by unfold maxLen; omega) (by omega) (by have h4 := hb4.size; simp at h4 ⊢; omega) _ rfl ?_; intro gg cap w5 hown5 hgrow5 hat5 hlt5; have hb4s := hb4.size; have hb4t := below_alloc hb4 (.cells #[.string S4] 9))))
            go_wp2_with fail
            go_roundw
            case measure => simp [intOf]; omega
            case rel =>
              refine ⟨i + 1, by omega, by go_num, ⟨?_⟩, ⟨?_⟩⟩
              · have hd := List.drop_eq_getElem_cons hlt
                rw [drop_at HA hlt] at hd
                rw [List.take_succ_eq_append_getElem hlt, ← (List.cons.inj hd).1, List.map_append, List.map_append]
                rw [HS4.out] at hown5
                exact hown5
              · exact pw_below_grown (below_next (below_drew1 HW.out) hb4t) _ (by have := below_size HW.out; simp at hb4s ⊢; omega) hgrow5 (fun k hk => own_base HO.out k hk)
      · have hn : namedB t = false := by simpa using hn
        have hcv := Lib.run_convert_bytes_const (P := Tryd.prog) (wr.alloc (.cells #[.int .i64 t, .int .i64 id, .int .i64 pm] 27)) 22 5 #[.int .u8 114, .int .u8 119, .int .u8 120] 3 3 Tryd.underlying22 Tryd.underlying5
        rw [show (wr.alloc (.cells #[.int .i64 t, .int .i64 id, .int .i64 pm] 27)).heap.size = wr.heap.size + 1 from by simp] at hcv
        go_wp2_with (first | (go_at_call 28; refine (named_any _ _).mono ?_; rintro e w1 ⟨rfl, rfl⟩))
        obtain ⟨L0, hL0⟩ : ∃ L0 : Int, (if Go.bits .and .i64 pm 4 = 0 then 45 else 114) = L0 := ⟨_, rfl⟩
        obtain ⟨L1, hL1⟩ : ∃ L1 : Int, (if Go.bits .and .i64 (pm * 2) 4 = 0 then 45 else 119) = L1 := ⟨_, rfl⟩
        obtain ⟨L2, hL2⟩ : ∃ L2 : Int, (if Go.bits .and .i64 (pm * 4) 4 = 0 then 45 else 120) = L2 := ⟨_, rfl⟩
        have HL0 := Aside0.mk hL0
        have HL1 := Aside0.mk hL1
        have HL2 := Aside0.mk hL2
        clear hL0 hL1 hL2
        go_loopw [25] (fun v w2 => ∃ j : Nat, j ≤ 3 ∧ v = .int .i64 j ∧ w2 = (wr.alloc (.cells #[.int .i64 t, .int .i64 id, .int .i64 pm] 27)).alloc (.cells #[.int .u8 (if 0 < j then L0 else 114), .int .u8 (if 1 < j then L1 else 119), .int .u8 (if 2 < j then L2 else 120)] 5 (3, 4))) (fun v _ => 3 - (intOf v).toNat)
        case atStart => exact ⟨0, by omega, rfl, rfl⟩
        case round =>
          obtain ⟨j, hj, rfl, rfl⟩ := hrel
          obtain rfl | rfl | rfl | rfl : j = 0 ∨ j = 1 ∨ j = 2 ∨ j = 3 := by omega
          · go_wp2_with fail
            · have hx : (Go.bits .and .i64 pm 4 == 0) = true := by assumption
              exact ⟨⟨1, by omega, rfl, by simp [← HL0.out, beq_iff_eq.1 hx]⟩, by simp [intOf]⟩
            · have hx : (Go.bits .and .i64 pm 4 == 0) = false := by assumption
              exact ⟨⟨1, by omega, rfl, by simp [← HL0.out, beq_eq_false_iff_ne.1 hx]⟩, by simp [intOf]⟩
          · go_wp2_with fail
            · have hx : (Go.bits .and .i64 (pm * 2) 4 == 0) = true := by assumption
              exact ⟨⟨2, by omega, rfl, by simp [← HL1.out, beq_iff_eq.1 hx]⟩, by simp [intOf]⟩
            · have hx : (Go.bits .and .i64 (pm * 2) 4 == 0) = false := by assumption
              exact ⟨⟨2, by omega, rfl, by simp [← HL1.out, beq_eq_false_iff_ne.1 hx]⟩, by simp [intOf]⟩
          · go_wp2_with fail
            · have hx : (Go.bits .and .i64 (pm * 4) 4 == 0) = true := by assumption
              exact ⟨⟨3, by omega, rfl, by simp [← HL2.out, beq_iff_eq.1 hx]⟩, by simp [intOf]⟩
            · have hx : (Go.bits .and .i64 (pm * 4) 4 == 0) = false := by assumption
              exact ⟨⟨3, by omega, rfl, by simp [← HL2.out, beq_eq_false_iff_ne.1 hx]⟩, by simp [intOf]⟩
          · go_wp2_with fail
            have HW := Aside0.mk (below_alloc (below_alloc HB.out (.cells #[.int .i64 t, .int .i64 id, .int .i64 pm] 27)) (.cells #[.int .u8 L0, .int .u8 L1, .int .u8 L2] 5 (3, 4)))
            have HO3 := Aside0.mk (own_alloc (own_alloc HO.out (.cells #[.int .i64 t, .int .i64 id, .int .i64 pm] 27)) (.cells #[.int .u8 L0, .int .u8 L1, .int .u8 L2] 5 (3, 4)))
            have x0 : ((wr.alloc (.cells #[.int .i64 t, .int .i64 id, .int .i64 pm] 27)).alloc (.cells #[.int .u8 L0, .int .u8 L1, .int .u8 L2] 5 (3, 4))).cell? ⟨wr.heap.size, 0, none⟩ = some (.int .i64 t) := by simp [go_sem]
            have y0 : ((wr.alloc (.cells #[.int .i64 t, .int .i64 id, .int .i64 pm] 27)).alloc (.cells #[.int .u8 L0, .int .u8 L1, .int .u8 L2] 5 (3, 4))).cell? ⟨(wr.heap.size + 1), 0, none⟩ = some (.int .u8 L0) := by simp [go_sem]
            have y1 : ((wr.alloc (.cells #[.int .i64 t, .int .i64 id, .int .i64 pm] 27)).alloc (.cells #[.int .u8 L0, .int .u8 L1, .int .u8 L2] 5 (3, 4))).cell? ⟨(wr.heap.size + 1), 1, none⟩ = some (.int .u8 L1) := by simp [go_sem]
            have y2 : ((wr.alloc (.cells #[.int .i64 t, .int .i64 id, .int .i64 pm] 27)).alloc (.cells #[.int .u8 L0, .int .u8 L1, .int .u8 L2] 5 (3, 4))).cell? ⟨(wr.heap.size + 1), 2, none⟩ = some (.int .u8 L2) := by simp [go_sem]
            have hz3 : ((wr.alloc (.cells #[.int .i64 t, .int .i64 id, .int .i64 pm] 27)).alloc (.cells #[.int .u8 L0, .int .u8 L1, .int .u8 L2] 5 (3, 4))).heap.size = wr.heap.size + 2 := by simp
            generalize (wr.alloc (.cells #[.int .i64 t, .int .i64 id, .int .i64 pm] 27)).alloc (.cells #[.int .u8 L0, .int .u8 L1, .int .u8 L2] 5 (3, 4)) = w3 at HW HO3 x0 y0 y1 y2 hz3 ⊢
            obtain ⟨i0, hi0, hz0, hz1, hz2⟩ := info_parts info9
            have hix := fun W => heads_index t W ⟨hbd.1, hbd.2.1⟩
            have hbk := fun W => three_any W (wr.heap.size + 1) L0 L1 L2
            have n1 := headOf_len t
            have n2 : True := trivial
            have hbk2 : ∀ W : World, W.cell? ⟨(wr.heap.size + 1), 0, none⟩ = some (.int .u8 L0) → W.cell? ⟨(wr.heap.size + 1), 1, none⟩ = some (.int .u8 L1) → W.cell? ⟨(wr.heap.size + 1), 2, none⟩ = some (.int .u8 L2) → (convert 22 9 (.slice (some ⟨(wr.heap.size + 1), 0, none⟩) 3 3)).run Tryd.prog W = .ok (.string (mkS (rwxP pm))) W := fun W e0 e1 e2 => by
              rw [hbk W e0 e1 e2, ← HL0.out, ← HL1.out, ← HL2.out]
              unfold strOfNums mkS rwxP
              simp only [List.map_cons, List.map_nil]
              congr 3
              simp only [apply_ite]
              rfl
            clear hbk
            have hc1 := fun W => str_add (P := Tryd.prog) (headOf t) [58] ⟨#[58]⟩ rfl (by simp; omega) W
            have hc2 := fun W => str_add (P := Tryd.prog) (headOf t ++ [58]) [] ⟨#[]⟩ rfl (by simp; omega) W
            have hc3 := fun W => str_add (P := Tryd.prog) (headOf t ++ [58] ++ []) [58] ⟨#[58]⟩ rfl (by simp; omega) W
            have hc4 := fun W => str_add (P := Tryd.prog) (headOf t ++ [58] ++ [] ++ [58]) (rwxP pm) _ rfl (by simp [rwxP]; omega) W
            generalize mkS (headOf t ++ [58]) = S1 at hc1 hc2
            generalize mkS (headOf t ++ [58] ++ []) = S2 at hc2 hc3
            generalize mkS (headOf t ++ [58] ++ [] ++ [58]) = S3 at hc3 hc4
            have hac : headOf t ++ [58] ++ [] ++ [58] ++ rwxP pm = aceText ⟨t, id, pm⟩ := by
              unfold aceText; rw [if_neg (by simpa using hn)]
            rw [hac] at hc4
            obtain ⟨S4, hS4⟩ : ∃ S, S = mkS (aceText ⟨t, id, pm⟩) := ⟨_, rfl⟩
            rw [← hS4] at hc4
            have HS4 := Aside0.mk hS4
            clear hS4 hac n1 n2
            clear h0 h1 h2 hcv
            have hsz3 : w.heap.size ≤ w3.heap.size := HW.out.size
            have hnb : ∀ g, wr.heap.size ≤ g → some g ≠ u3.ownBlock := fun g hg he => by have := own_lt HO.out g he.symm; omega
            go_region_held3 (fun w' => w'.cell? ⟨wr.heap.size, 0, none⟩ = some (.int .i64 t) ∧ w'.cell? ⟨(wr.heap.size + 1), 0, none⟩ = some (.int .u8 L0) ∧ w'.cell? ⟨(wr.heap.size + 1), 1, none⟩ = some (.int .u8 L1) ∧ w'.cell? ⟨(wr.heap.size + 1), 2, none⟩ = some (.int .u8 L2))
              (first
                | go_keep
                | (go_split_ands
                   refine ⟨?_, ?_, ?_, ?_⟩
                   · (rw [hb4.cell (by simp; omega)]; assumption)
                   · (rw [hb4.cell (by simp; omega)]; assumption)
                   · (rw [hb4.cell (by simp; omega)]; assumption)
                   · (rw [hb4.cell (by simp; omega)]; assumption))
                | (go_split_ands
                   refine ⟨?_, ?_, ?_, ?_⟩
                   · (rw [hgrow5.cell_far _ (by simp at hb4s ⊢; omega) (hnb _ (by simp <;> omega))]; assumption)
                   · (rw [hgrow5.cell_far _ (by simp at hb4s ⊢; omega) (hnb _ (by simp <;> omega))]; assumption)
                   · (rw [hgrow5.cell_far _ (by simp at hb4s ⊢; omega) (hnb _ (by simp <;> omega))]; assumption)
                   · (rw [hgrow5.cell_far _ (by simp at hb4s ⊢; omega) (hnb _ (by simp <;> omega))]; assumption)))
              ((first
                | (go_at_call 30; refine (heads_any _).mono ?_; rintro e w4 ⟨rfl, hb4⟩)
                | (refine step_append_lies (o := ⟨some 51, _, _, _, _, _⟩) _ (by rfl) _ _ _ (by rfl) w.heap.size 9 i0 _ 1 16 Tryd.underlying28 hi0 hz0 hz1 hz2 rfl (by omega) u3 i _ (by rfl) (own_alloc (pw_own_below (World.ownsRow.drew HO3.out) hb4) _) _ 1 1 [.string S4] (by rfl) (by rfl) (World.news_of_block (cs := #[.string S4]) (t := 9) (fr := (0, 0)) (heap_alloc_new _ _)) (by simp [Value.oneCell']) (by omega) (by unfold maxLen; omega) (by omega) (by have h4 := hb4.size; simp at h4 ⊢; omega) _ rfl ?_; intro gg cap w5 hown5 hgrow5 hat5 hlt5; have hb4s := hb4.size; have hb4t := below_alloc hb4 (.cells #[.string S4] 9))))
            go_wp2_with fail
            go_roundw
            case measure => simp [intOf]; omega
            case rel =>
              refine ⟨i + 1, by omega, by go_num, ⟨?_⟩, ⟨?_⟩⟩
              · have hd := List.drop_eq_getElem_cons hlt
                rw [drop_at HA hlt] at hd
                rw [List.take_succ_eq_append_getElem hlt, ← (List.cons.inj hd).1, List.map_append, List.map_append]
                rw [HS4.out] at hown5
                exact hown5
              · exact pw_below_grown (below_next (below_drew1 HW.out) hb4t) _ (by have := below_size HW.out; simp at hb4s ⊢; omega) hgrow5 (fun k hk => own_base HO.out k hk)
    · obtain rfl : i = l.length := by omega
      have h0 := HO.out
      rw [List.take_length] at h0
      obtain ⟨-, ⟨-, h1⟩ | ⟨g, cap, cur, rfl, hbg, hblk, hcap, -, -, hcur⟩⟩ := h0
      · omega
      have hcells : ∀ (j : Nat) x, (l.map aceText)[j]? = some x → wr.cell? ⟨g, j, none⟩ = some (.string (mkS x)) := fun j x hx => by
        have hj : j < l.length := by
          have := (List.getElem?_eq_some_iff.1 hx).1
          simpa using this
        have e1 : wr.cell? ⟨g, j, none⟩ = cur[j]? := by simp [World.cell?, hblk]
        rw [e1, ← Array.getElem?_toList]
        have e2 := congrArg (fun z => z[j]?) hcur
        simp only [Nat.mul_one, List.getElem?_map, hx] at e2
        rw [List.getElem?_take_of_lt hj] at e2
        exact e2
      have hlen := join_le (l.map aceText) 27 (fun x hx => by
        obtain ⟨a, ha, rfl⟩ := List.mem_map.1 hx
        have h1 := HBD.out a ha
        have h2 := aceText_le a
        have h3 := Lib.itoa_length_le a.f1 (by omega) (by omega)
        omega)
      rw [List.length_map] at hlen
      have hj := join_any g cap (l.map aceText) 44 wr hcells (heap_lt hblk) (by simp; omega) (by simpa using hcap) (by omega)
      rw [List.length_map] at hj
      go_wp2_with fail
      refine hj.mono ?_
      rintro e w2 ⟨rfl, hb2⟩
      go_wp2_with fail
      go_ret
      exact ⟨rfl, below_next HB.out hb2⟩
end Go.Proofs.YtejgnnhmeolphaaDoor
