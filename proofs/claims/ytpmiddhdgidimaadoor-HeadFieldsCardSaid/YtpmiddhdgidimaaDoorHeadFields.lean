/- HeadFields: the walk. -/
import Derived.Test.YtpmiddhdgidimaaDoorHeadBack
import Derived.Test.YtpmiddhdgidimaaDoorRefField
set_option linter.unusedVariables false
set_option linter.unusedSimpArgs false
namespace Go.Proofs.YtpmiddhdgidimaaDoor
open Go.RowKit Go.Proofs.YtpmiddhdgidimaaDoorW.PrintWords
set_option maxHeartbeats 4000000 in
set_option maxRecDepth 100000 in
theorem headFields_far (a b : List UInt8) (A : Option Addr) (len cap : Nat) (t : UInt8) (w : World) (hG : Good w) (hg : 300 < a.length ∨ 300 < b.length) :
    Calls Tryd.prog 5 #[.string (mkS a), .string (mkS b), .slice A len cap, .int .u8 (t.toNat : Int)] w fun e w' => e = .returned (.bool true) ∧ Below w.heap.size w w' := by
  have HG := Aside0.mk hG
  clear hG
  have hq : (300 : Int) < a.length ∨ (¬ (300 : Int) < a.length ∧ (300 : Int) < b.length) := by omega
  clear hg
  rcases hq with q1 | ⟨q1, q2⟩
  all_goals
    go_enter Tryd.func5, Tryd.ntmps5
    go_wp2_with (go_at_call 8; refine (awake_any _ HG.out).mono ?_; rintro e w1 ⟨rfl, hb1⟩)
    go_ret
    exact ⟨rfl, hb1⟩
theorem region_rest {P : Program} {c : Code} {Q : Exit → Act → World → Prop} {a : Act} {w : World} (f : Act → Nat → Nat → Act) (S : Nat → Nat → World → Prop)
    (h1 : c.wp P (fun e a' w' => e = .normal ∧ ∃ pA pB, a' = f a pA pB ∧ S pA pB w') a w) (h2 : ∀ pA pB w', S pA pB w' → Q .normal (f a pA pB) w') : c.wp P Q a w :=
  wp_mono h1 (fun e a' w' ⟨he, pA, pB, ha, hs⟩ => by subst he ha; exact h2 pA pB w' hs)
structure SaidAt (W : World) (b : Nat) : Prop where
  c0 : W.cell? ⟨b, 0, none⟩ = some (.string ⟨#[]⟩)
  c1 : W.cell? ⟨b, 1, none⟩ = some (.bool false)
  f0 : W.frozen? ⟨b, 0, none⟩ = false
  f1 : W.frozen? ⟨b, 1, none⟩ = false
theorem SaidAt.of {W : World} {b : Nat} (h : W.heap[b]? = some (.cells #[.string ⟨#[]⟩, .bool false] 38)) : SaidAt W b := ⟨blk_cell h 0, blk_cell h 1, blk_frozen h 0, blk_frozen h 1⟩
theorem SaidAt.lt {W : World} {b : Nat} (h : SaidAt W b) : b < W.heap.size := World.block_lt_of_cell? W ⟨b, 0, none⟩ h.c0
theorem SaidAt.next {W w1 : World} {b : Nat} (h : SaidAt W b) (hb : Below W.heap.size W w1) : SaidAt w1 b :=
  ⟨(hb.cell (p := ⟨b, 0, none⟩) h.lt).trans h.c0, (hb.cell (p := ⟨b, 1, none⟩) h.lt).trans h.c1, (hb.frozen (p := ⟨b, 0, none⟩) h.lt).trans h.f0, (hb.frozen (p := ⟨b, 1, none⟩) h.lt).trans h.f1⟩
theorem SaidAt.new (W : World) : SaidAt (W.alloc (.cells #[.string ⟨#[]⟩, .bool false] 38)) W.heap.size := .of (heap_alloc_new W _)
theorem SaidAt.old {W : World} {b : Nat} (h : SaidAt W b) (o : Obj) : SaidAt (W.alloc o) b := h.next (below_alloc (Below.refl _ _) o)
theorem SaidAt.new1 (W : World) (o : Obj) : SaidAt ((W.alloc o).alloc (.cells #[.string ⟨#[]⟩, .bool false] 38)) (W.heap.size + 1) := by
  have := SaidAt.new (W.alloc o)
  rwa [show (W.alloc o).heap.size = W.heap.size + 1 by simp] at this
theorem SaidAt.facts {W : World} {b : Nat} (h : SaidAt W b) : W.cell? ⟨b, 0, none⟩ = some (.string ⟨#[]⟩) ∧ W.cell? ⟨b, 1, none⟩ = some (.bool false) ∧ W.frozen? ⟨b, 0, none⟩ = false ∧ W.frozen? ⟨b, 1, none⟩ = false ∧ b < W.heap.size := ⟨h.c0, h.c1, h.f0, h.f1, h.lt⟩
theorem head_of_fill {B l : List UInt8} {a n : Nat} (h : part B a n = fill l n) (hl : l.length ≤ n) : (B.drop a).take l.length = l := by
  have : ((B.drop a).take n).take l.length = (fill l n).take l.length := by unfold part at h; rw [h]
  rw [List.take_take, Nat.min_eq_left hl] at this
  rw [this]
  unfold fill
  simp
set_option maxHeartbeats 8000000 in
set_option maxRecDepth 100000 in
theorem headFields_main (a b : List UInt8) (A : Option Addr) (len cap : Nat) (zs : List Int) (t : UInt8) (w : World) (hG : Good w) (hN : NumsAt w A len zs) (h1 : a.length ≤ 300) (h2 : b.length ≤ 300) :
    Calls Tryd.prog 5 #[.string (mkS a), .string (mkS b), .slice A len cap, .int .u8 (t.toNat : Int)] w fun e w' => e = .returned (.bool true) ∧ Below w.heap.size w w' := by
  have q1 : ¬ (300 : Int) < a.length := by omega
  have q2 : ¬ (300 : Int) < b.length := by omega
  have HG := Aside0.mk hG
  have hnu := numK_nums hN
  have HMK := Aside0.mk (make_any a b A len cap zs t w hN (by omega) (by omega))
  obtain ⟨H, hH⟩ : ∃ H, makeT a b (numK len zs) t = H := ⟨_, rfl⟩
  have m : MayH H := hH ▸ make_may a b _ t hnu
  have ii : Ints H := hH ▸ make_ints a b _ t hnu
  have ff : Fits H := hH ▸ make_fits a b _ t hnu
  have hty : H.typ = t := by rw [← hH]; rfl
  rw [hH] at HMK
  clear hH hnu hG hN
  obtain ⟨B, hB⟩ : ∃ B, blockT H = B := ⟨_, rfl⟩
  have hBl : B.length = 512 := by rw [← hB]; exact blockT_length m
  have HPUT := Aside0.mk (fun W hGW => put_is H B (by rw [put_of m, hB]) W hGW ff)
  have p0 : part B 0 100 = fill H.name 100 := by rw [← hB]; exact part_block m 0 0 100 _ rfl rfl rfl
  have p1 : part B 100 8 = fld H.mode 8 := by rw [← hB]; exact part_block m 1 100 8 _ rfl rfl rfl
  have p4 : part B 124 12 = fld H.size 12 := by rw [← hB]; exact part_block m 4 124 12 _ rfl rfl rfl
  have p7 : part B 156 1 = [H.typ] := by rw [← hB]; exact part_block m 7 156 1 _ rfl rfl rfl
  have p8 : part B 157 100 = fill H.link 100 := by rw [← hB]; exact part_block m 8 157 100 _ rfl rfl rfl
  have p9 : part B 257 8 = magicL := by rw [← hB]; exact part_block m 9 257 8 _ rfl rfl rfl
  have p10 : part B 265 32 = fill H.uname 32 := by rw [← hB]; exact part_block m 10 265 32 _ rfl rfl rfl
  have p14 : part B 345 155 = fill H.pre 155 := by rw [← hB]; exact part_block m 14 345 155 _ rfl rfl rfl
  have p15 : part B 500 12 = List.replicate 12 0 := by rw [← hB]; exact part_block m 15 500 12 _ rfl rfl rfl
  have n0 := (textOk_le m.name).1
  have n8 := (textOk_le m.link).1
  have n10 := (textOk_le m.uname).1
  have n14 := (textOk_le m.pre).1
  have HF1 := Aside0.mk (fun W => show Calls Tryd.prog 14 #[.int .i64 H.mode, .int .i64 8] W fun e w' => e = .returned (.agg #[.string (mkS (fld H.mode 8)), .bool true]) ∧ Below W.heap.size W w' from by
    have := rField_any H.mode 8 W (.inl rfl) ii.mode.1 ii.mode.2
    rw [fld_some m.mode.1] at this
    exact this)
  have HF2 := Aside0.mk (fun W => show Calls Tryd.prog 14 #[.int .i64 H.size, .int .i64 12] W fun e w' => e = .returned (.agg #[.string (mkS (fld H.size 12)), .bool true]) ∧ Below W.heap.size W w' from by
    have := rField_any H.size 12 W (.inr rfl) ii.size.1 ii.size.2
    rw [fld_some m.size.1] at this
    exact this)
  have x0 : (mkS B).extract 0 H.name.length = mkS H.name := by rw [extract_mkS, Nat.sub_zero, head_of_fill p0 n0]
  have x1 : (mkS B).extract 100 108 = mkS (fld H.mode 8) := by rw [extract_mkS, ← p1]; rfl
  have x4 : (mkS B).extract 124 136 = mkS (fld H.size 12) := by rw [extract_mkS, ← p4]; rfl
  have x8 : (mkS B).extract 157 (157 + H.link.length) = mkS H.link := by rw [extract_mkS, Nat.add_sub_cancel_left, head_of_fill p8 n8]
  have x9 : (mkS B).extract 257 265 = mkS magicL := by rw [extract_mkS, ← p9]; rfl
  have x10 : (mkS B).extract 265 (265 + H.uname.length) = mkS H.uname := by rw [extract_mkS, Nat.add_sub_cancel_left, head_of_fill p10 n10]
  have x14 : (mkS B).extract 345 (345 + H.pre.length) = mkS H.pre := by rw [extract_mkS, Nat.add_sub_cancel_left, head_of_fill p14 n14]
  have x15 : (mkS B).extract 500 512 = mkS (List.replicate 12 0) := by rw [extract_mkS, ← p15]; rfl
  have x7 : B.getD 156 0 = t := by rw [← hty]; exact getD_part B 156 _ p7
  have hBl' : (B.length : Int) = 512 := by omega
  obtain ⟨F1, hF1⟩ : ∃ F, fld H.mode 8 = F := ⟨_, rfl⟩
  obtain ⟨F2, hF2⟩ : ∃ F, fld H.size 12 = F := ⟨_, rfl⟩
  rw [hF1] at HF1 x1
  rw [hF2] at HF2 x4
  clear p0 p1 p4 p7 p8 p9 p10 p14 p15 hF1 hF2 hB hty m ii ff
  obtain ⟨n0', k1, k2, k3, k4, k5, k6, k7, k8, k9, k10, k11, k12⟩ := H
  simp only [hdCells] at HMK HPUT HF1 HF2 x0 x8 x10 x14 n0 n8 n10 n14
  go_enter Tryd.func5, Tryd.ntmps5
  go_wp2_with fail
  refine HMK.out.mono ?_
  rintro e w1 ⟨rfl, hb1⟩
  have B1 := Aside0.mk hb1
  clear hb1 HMK
  go_wp2_with fail
  have G1 := Aside0.mk (heap_alloc_new w1 (.cells #[.string (mkS n0'), .int .i64 k1, .int .i64 k2, .int .i64 k3, .int .i64 k4, .int .i64 k5, .int .u8 (k6.toNat : Int), .string (mkS k7), .string (mkS k8), .string (mkS k9), .int .i64 k10, .int .i64 k11, .string (mkS k12)] 26))
  have B2 := Aside0.mk (below_alloc B1.out (.cells #[.string (mkS n0'), .int .i64 k1, .int .i64 k2, .int .i64 k3, .int .i64 k4, .int .i64 k5, .int .u8 (k6.toNat : Int), .string (mkS k7), .string (mkS k8), .string (mkS k9), .int .i64 k10, .int .i64 k11, .string (mkS k12)] 26))
  refine (HPUT.out _ (HG.out.below B2.out)).mono ?_
  rintro e w2 ⟨rfl, hb2⟩
  have G2 := Aside0.mk ((hb2.block _ (blk_lt G1.out)).trans G1.out)
  have B3 := Aside0.mk (below_next B2.out hb2)
  generalize w1.heap.size = p1 at G2 ⊢
  clear hb2 G1 B1 B2 HPUT
  have c1 : w2.cell? ⟨p1, 1, none⟩ = some (.int .i64 k1) := blk_cell G2.out 1
  have c4 : w2.cell? ⟨p1, 4, none⟩ = some (.int .i64 k4) := blk_cell G2.out 4
  have c0 : w2.cell? ⟨p1, 0, none⟩ = some (.string (mkS n0')) := blk_cell G2.out 0
  have c7 : w2.cell? ⟨p1, 7, none⟩ = some (.string (mkS k7)) := blk_cell G2.out 7
  have c8 : w2.cell? ⟨p1, 8, none⟩ = some (.string (mkS k8)) := blk_cell G2.out 8
  have c12 : w2.cell? ⟨p1, 12, none⟩ = some (.string (mkS k12)) := blk_cell G2.out 12
  have lp := blk_lt G2.out
  have HR0 := Aside0.mk (Below.refl w2.heap.size w2)
  have KP := Aside0.mk (fun (W : World) (hb : Below w2.heap.size w2 W) => show (fun W => W.cell? ⟨p1, 1, none⟩ = some (.int .i64 k1) ∧ W.cell? ⟨p1, 4, none⟩ = some (.int .i64 k4) ∧ Aside0 (Below w2.heap.size w2 W)) W from by
    have g := (hb.block _ (blk_lt G2.out)).trans G2.out
    exact ⟨blk_cell g 1, blk_cell g 4, ⟨hb⟩⟩)
  go_wp2_with fail
  refine region_rest (fun a pA pB => { a with tmps := ((((((((a.tmps.setIfInBounds 32 (.pointer (some ⟨p1, 1, none⟩))).setIfInBounds 33 (.int .i64 k1)).setIfInBounds 34 (.agg #[.string (mkS F1), .bool true])).setIfInBounds 35 (.pointer (some ⟨p1, 4, none⟩))).setIfInBounds 36 (.int .i64 k4)).setIfInBounds 37 (.agg #[.string (mkS F2), .bool true])).setIfInBounds 11 (.pointer (some ⟨pA, 0, none⟩))).setIfInBounds 12 (.pointer (some ⟨pB, 0, none⟩))) }) (fun (pA pB : Nat) (W : World) => W.cell? ⟨pA, 0, none⟩ = some (.string (mkS F1)) ∧ W.cell? ⟨pB, 0, none⟩ = some (.string (mkS F2)) ∧ Aside0 (Below w2.heap.size w2 W)) ?_ ?_
  · go_region_held3 (fun W => W.cell? ⟨p1, 1, none⟩ = some (.int .i64 k1) ∧ W.cell? ⟨p1, 4, none⟩ = some (.int .i64 k4) ∧ Aside0 (Below w2.heap.size w2 W))
      (first
        | with_reducible exact KP.out _ (below_drew HR0.out)
        | with_reducible exact KP.out _ hbq
        | exact KP.out _ (by go_grown))
      ((go_split_ands
        have hbw := Aside0.out (by assumption : Aside0 (Below w2.heap.size w2 _))
        first
        | (go_at_call 14; have hh := t1; refine (HF2.out _).mono ?_; rintro e wq ⟨rfl, hbp⟩; have hbq := below_next hbw hbp; have hsz := hbq.size; have hsz2 := hbp.size; (first | (have zq0 := SaidAt.next (zp0) hbp; obtain ⟨zq0a, zq0b, zq0c, zq0d, zq0e⟩ := SaidAt.facts zq0; have zq0f := Nat.ne_of_lt zq0e; have zq0g := Nat.ne_of_gt zq0e) | (have zq0 := SaidAt.next (zp0.old _) hbp; obtain ⟨zq0a, zq0b, zq0c, zq0d, zq0e⟩ := SaidAt.facts zq0; have zq0f := Nat.ne_of_lt zq0e; have zq0g := Nat.ne_of_gt zq0e) | skip); (first | (have zq1 := SaidAt.next (zp1) hbp; obtain ⟨zq1a, zq1b, zq1c, zq1d, zq1e⟩ := SaidAt.facts zq1; have zq1f := Nat.ne_of_lt zq1e; have zq1g := Nat.ne_of_gt zq1e) | (have zq1 := SaidAt.next (zp1.old _) hbp; obtain ⟨zq1a, zq1b, zq1c, zq1d, zq1e⟩ := SaidAt.facts zq1; have zq1f := Nat.ne_of_lt zq1e; have zq1g := Nat.ne_of_gt zq1e) | skip); (first | (have zq2 := SaidAt.next (SaidAt.new wp) hbp; obtain ⟨zq2a, zq2b, zq2c, zq2d, zq2e⟩ := SaidAt.facts zq2; have zq2f := Nat.ne_of_lt zq2e; have zq2g := Nat.ne_of_gt zq2e) | (have zq2 := SaidAt.next ((SaidAt.new wp).old _) hbp; obtain ⟨zq2a, zq2b, zq2c, zq2d, zq2e⟩ := SaidAt.facts zq2; have zq2f := Nat.ne_of_lt zq2e; have zq2g := Nat.ne_of_gt zq2e) | skip); (first | (have zq3 := SaidAt.next (SaidAt.new1 wp _) hbp; obtain ⟨zq3a, zq3b, zq3c, zq3d, zq3e⟩ := SaidAt.facts zq3; have zq3f := Nat.ne_of_lt zq3e; have zq3g := Nat.ne_of_gt zq3e) | skip))
        | (go_at_call 14; refine (HF1.out _).mono ?_; rintro e wp ⟨rfl, hbp⟩; have hbq := below_next hbw hbp; have hsz := hbq.size; have hsz1 := hbp.size; (first | (have zp0 := SaidAt.next (b := w2.heap.size) (SaidAt.new w2.drew) hbp; obtain ⟨zp0a, zp0b, zp0c, zp0d, zp0e⟩ := SaidAt.facts zp0; have zp0f := Nat.ne_of_lt zp0e; have zp0g := Nat.ne_of_gt zp0e) | (have zp0 := SaidAt.next (b := w2.heap.size) ((SaidAt.new w2.drew).old _) hbp; obtain ⟨zp0a, zp0b, zp0c, zp0d, zp0e⟩ := SaidAt.facts zp0; have zp0f := Nat.ne_of_lt zp0e; have zp0g := Nat.ne_of_gt zp0e) | skip); (first | (have zp1 := SaidAt.next (b := w2.heap.size + 1) (SaidAt.new1 w2.drew _) hbp; obtain ⟨zp1a, zp1b, zp1c, zp1d, zp1e⟩ := SaidAt.facts zp1; have zp1f := Nat.ne_of_lt zp1e; have zp1g := Nat.ne_of_gt zp1e) | skip); have t1 := True.intro)))
    all_goals (refine ⟨rfl, _, _, rfl, ?_, ?_, ⟨?_⟩⟩; go_simp; go_simp; go_grown)
  · intro pA pB W3 hS3
    obtain ⟨cA, cB, B4⟩ := hS3
    have B5 := Aside0.mk (below_next B3.out B4.out)
    have G5 := Aside0.mk ((B4.out.block _ lp).trans G2.out)
    clear c0 c1 c4 c7 c8 c12 lp HR0 KP
    simp only [List.setIfInBounds_toArray, List.set_cons_zero, List.set_cons_succ]
    have c0 : W3.cell? ⟨p1, 0, none⟩ = some (.string (mkS n0')) := blk_cell G5.out 0
    have c7 : W3.cell? ⟨p1, 7, none⟩ = some (.string (mkS k7)) := blk_cell G5.out 7
    have c8 : W3.cell? ⟨p1, 8, none⟩ = some (.string (mkS k8)) := blk_cell G5.out 8
    have c12 : W3.cell? ⟨p1, 12, none⟩ = some (.string (mkS k12)) := blk_cell G5.out 12
    obtain ⟨L8, hL8⟩ : ∃ L, 157 + k7.length = L := ⟨_, rfl⟩
    obtain ⟨L10, hL10⟩ : ∃ L, 265 + k8.length = L := ⟨_, rfl⟩
    obtain ⟨L14, hL14⟩ : ∃ L, 345 + k12.length = L := ⟨_, rfl⟩
    rw [hL8] at x8
    rw [hL10] at x10
    rw [hL14] at x14
    have E8 : (157 : Int) + k7.length = L8 := by omega
    have E10 : (265 : Int) + k8.length = L10 := by omega
    have E14 : (345 : Int) + k12.length = L14 := by omega
    have y8 : (157 : Int) ≤ L8 := by omega
    have y10 : (265 : Int) ≤ L10 := by omega
    have y14 : (345 : Int) ≤ L14 := by omega
    have t8 : (L8 : Int) ≤ 512 := by omega
    have t10 : (L10 : Int) ≤ 512 := by omega
    have t14 : (L14 : Int) ≤ 512 := by omega
    have t0 : (n0'.length : Int) ≤ 512 := by omega
    have u8 : IntKind.i64.wrap (L8 : Int) = L8 := by rw [IntKind.wrap_i64]; omega
    have u10 : IntKind.i64.wrap (L10 : Int) = L10 := by rw [IntKind.wrap_i64]; omega
    have u14 : IntKind.i64.wrap (L14 : Int) = L14 := by rw [IntKind.wrap_i64]; omega
    have hb156 : ∀ h, (mkS B)[156]'h = t := fun h => by
      rw [← x7, List.getD_eq_getElem?_getD, List.getElem?_eq_getElem (by omega)]
      simp [mkS, ByteArray.getElem_eq_getElem_data]
    unfold magicL at x9
    obtain ⟨MC, hMC⟩ : ∃ MC, madeCells #[Value.int .u8 0] 12 = MC := ⟨_, rfl⟩
    obtain ⟨Z, hZ⟩ : ∃ Z, List.replicate 12 (0 : UInt8) = Z := ⟨_, rfl⟩
    have hmz : ∀ W, (Instr.makeSlice 34 (.int .i64 12) (.int .i64 12)).run Tryd.prog W = .ok (.slice (some ⟨W.heap.size, 0, none⟩) 12 12) (W.alloc (.cells MC 5)) := fun W => by
      rw [← hMC]
      exact run_make_row' (P := Tryd.prog) 34 5 (.int .u8 0) 1 Tryd.underlying34 info_byte rfl .i64 .i64 12 (by omega) (by omega) W
    have hcz : ∀ W : World, (convert 34 9 (.slice (some ⟨W.heap.size, 0, none⟩) 12 12)).run Tryd.prog (W.alloc (.cells MC 5)) = .ok (.string (mkS Z)) (W.alloc (.cells MC 5)) := fun W => by
      obtain ⟨W', h1, h2, h3, h4⟩ := zeros_world 12 (by decide) W
      have h5 := hmz W
      rw [show ((12 : Nat) : Int) = 12 from rfl, h5] at h1
      injection h1 with _ h1
      rw [← h1, hZ] at h4
      exact h4
    have x15b : (mkS B).extract 500 B.length = mkS (List.replicate 12 0) := by rw [hBl]; exact x15
    have hcz2 : ∀ W : World, (convert 34 9 (.slice (some ⟨W.heap.size, 0, none⟩) 12 12)).run Tryd.prog (W.alloc (.cells MC 5)).drew = .ok (.string (mkS Z)) (W.alloc (.cells MC 5)).drew := fun W => hcz W.drew
    rw [hZ] at x15 x15b
    have KQ := Aside0.mk (fun (W : World) (hb : Below W3.heap.size W3 W) => show (fun W => W.cell? ⟨p1, 0, none⟩ = some (.string (mkS n0')) ∧ W.cell? ⟨p1, 7, none⟩ = some (.string (mkS k7)) ∧ W.cell? ⟨p1, 8, none⟩ = some (.string (mkS k8)) ∧ W.cell? ⟨p1, 12, none⟩ = some (.string (mkS k12)) ∧ W.cell? ⟨pA, 0, none⟩ = some (.string (mkS F1)) ∧ W.cell? ⟨pB, 0, none⟩ = some (.string (mkS F2)) ∧ Aside0 (Below W3.heap.size W3 W)) W from by
      have g := (hb.block _ (blk_lt G5.out)).trans G5.out
      exact ⟨blk_cell g 0, blk_cell g 7, blk_cell g 8, blk_cell g 12, (hb.cell (p := ⟨pA, 0, none⟩) (World.block_lt_of_cell? W3 _ cA)).trans cA, (hb.cell (p := ⟨pB, 0, none⟩) (World.block_lt_of_cell? W3 _ cB)).trans cB, ⟨hb⟩⟩)
    have HR3 := Aside0.mk (Below.refl W3.heap.size W3)
    clear hL8 hL10 hL14 hMC hZ n0 n8 n10 n14 x7 HF1 HF2 hBl h1 h2
    go_wp2_with fail
    refine wp_region_noPanic ?_
    refine wp_region_held_drew (S := fun W => W.cell? ⟨p1, 0, none⟩ = some (.string (mkS n0')) ∧ W.cell? ⟨p1, 7, none⟩ = some (.string (mkS k7)) ∧ W.cell? ⟨p1, 8, none⟩ = some (.string (mkS k8)) ∧ W.cell? ⟨p1, 12, none⟩ = some (.string (mkS k12)) ∧ W.cell? ⟨pA, 0, none⟩ = some (.string (mkS F1)) ∧ W.cell? ⟨pB, 0, none⟩ = some (.string (mkS F2)) ∧ Aside0 (Below W3.heap.size W3 W)) (by kernel_rfl) (KQ.out _ (below_drew HR3.out)) ?_
    intro hS0
    refine wpAnyH_take (i := 0) (oi := ⟨some 38, _, _, _, _, _⟩) (v := ?_) rfl (by kernel_rfl) (by kernel_rfl) (by kernel_rfl) (fun _ _ _ h => h) (Or.inl ⟨by rfl, ?_⟩) (by assumption) ?_
    rotate_left
    · (intro w hSw; (try dsimp only at hSw); go_simp)
      try with_reducible rfl
    try simp only [Act.put, List.setIfInBounds_toArray, List.set_cons_zero, List.set_cons_succ]
    refine wpAnyH_take (i := 1) (oi := ⟨some 39, _, _, _, _, _⟩) (v := ?_) rfl (by kernel_rfl) (by kernel_rfl) (by kernel_rfl) (fun _ _ _ h => h) (Or.inl ⟨by rfl, ?_⟩) (by assumption) ?_
    rotate_left
    · (intro w hSw; (try dsimp only at hSw); go_simp)
      try with_reducible rfl
    try simp only [Act.put, List.setIfInBounds_toArray, List.set_cons_zero, List.set_cons_succ]
    refine wpAnyH_take (i := 2) (oi := ⟨some 40, _, _, _, _, _⟩) (v := ?_) rfl (by kernel_rfl) (by kernel_rfl) (by kernel_rfl) (fun _ _ _ h => h) (Or.inl ⟨by rfl, ?_⟩) (by assumption) ?_
    rotate_left
    · (intro w hSw; (try dsimp only at hSw); go_simp)
      try with_reducible rfl
    try simp only [Act.put, List.setIfInBounds_toArray, List.set_cons_zero, List.set_cons_succ]
    refine wpAnyH_take (i := 3) (oi := ⟨some 41, _, _, _, _, _⟩) (v := ?_) rfl (by kernel_rfl) (by kernel_rfl) (by kernel_rfl) (fun _ _ _ h => h) (Or.inl ⟨by rfl, ?_⟩) (by assumption) ?_
    rotate_left
    · (intro w hSw; (try dsimp only at hSw); go_simp)
      try with_reducible rfl
    try simp only [Act.put, List.setIfInBounds_toArray, List.set_cons_zero, List.set_cons_succ]
    refine wpAnyH_take (i := 4) (oi := ⟨some 42, _, _, _, _, _⟩) (v := ?_) rfl (by kernel_rfl) (by kernel_rfl) (by kernel_rfl) (fun _ _ _ h => h) (Or.inl ⟨by rfl, ?_⟩) (by assumption) ?_
    rotate_left
    · (intro w hSw; (try dsimp only at hSw); go_simp)
      try with_reducible rfl
    try simp only [Act.put, List.setIfInBounds_toArray, List.set_cons_zero, List.set_cons_succ]
    refine wpAnyH_take (i := 5) (oi := ⟨some 43, _, _, _, _, _⟩) (v := ?_) rfl (by kernel_rfl) (by kernel_rfl) (by kernel_rfl) (fun _ _ _ h => h) (Or.inl ⟨by rfl, ?_⟩) (by assumption) ?_
    rotate_left
    · (intro w hSw; (try dsimp only at hSw); go_simp)
      try with_reducible rfl
    try simp only [Act.put, List.setIfInBounds_toArray, List.set_cons_zero, List.set_cons_succ]
    refine wpAnyH_take (i := 6) (oi := ⟨some 44, _, _, _, _, _⟩) (v := ?_) rfl (by kernel_rfl) (by kernel_rfl) (by kernel_rfl) (fun _ _ _ h => h) (Or.inl ⟨by rfl, ?_⟩) (by assumption) ?_
    rotate_left
    · (intro w hSw; (try dsimp only at hSw); go_simp)
      try with_reducible rfl
    try simp only [Act.put, List.setIfInBounds_toArray, List.set_cons_zero, List.set_cons_succ]
    refine wpAnyH_take (i := 7) (oi := ⟨some 45, _, _, _, _, _⟩) (v := ?_) rfl (by kernel_rfl) (by kernel_rfl) (by kernel_rfl) (fun _ _ _ h => h) (Or.inl ⟨by rfl, ?_⟩) (by assumption) ?_
    rotate_left
    · (intro w hSw; (try dsimp only at hSw); go_simp)
      try with_reducible rfl
    try simp only [Act.put, List.setIfInBounds_toArray, List.set_cons_zero, List.set_cons_succ]
    refine wpAnyH_take (i := 8) (oi := ⟨some 46, _, _, _, _, _⟩) (v := ?_) rfl (by kernel_rfl) (by kernel_rfl) (by kernel_rfl) (fun _ _ _ h => h) (Or.inl ⟨by rfl, ?_⟩) (by assumption) ?_
    rotate_left
    · (intro w hSw; (try dsimp only at hSw); go_simp)
      try with_reducible rfl
    try simp only [Act.put, List.setIfInBounds_toArray, List.set_cons_zero, List.set_cons_succ]
    refine wpAnyH_take (i := 9) (oi := ⟨some 47, _, _, _, _, _⟩) (v := ?_) rfl (by kernel_rfl) (by kernel_rfl) (by kernel_rfl) (fun _ _ _ h => h) (Or.inl ⟨by rfl, ?_⟩) (by assumption) ?_
    rotate_left
    · (intro w hSw; (try dsimp only at hSw); go_simp)
      try with_reducible rfl
    try simp only [Act.put, List.setIfInBounds_toArray, List.set_cons_zero, List.set_cons_succ]
    refine wpAnyH_take (i := 10) (oi := ⟨some 48, _, _, _, _, _⟩) (v := ?_) rfl (by kernel_rfl) (by kernel_rfl) (by kernel_rfl) (fun _ _ _ h => h) (Or.inl ⟨by rfl, ?_⟩) (by assumption) ?_
    rotate_left
    · (intro w hSw; (try dsimp only at hSw); go_simp)
      try with_reducible rfl
    try simp only [Act.put, List.setIfInBounds_toArray, List.set_cons_zero, List.set_cons_succ]
    refine wpAnyH_take (i := 11) (oi := ⟨some 49, _, _, _, _, _⟩) (v := ?_) rfl (by kernel_rfl) (by kernel_rfl) (by kernel_rfl) (fun _ _ _ h => h) (Or.inl ⟨by rfl, ?_⟩) (by assumption) ?_
    rotate_left
    · (intro w hSw; (try dsimp only at hSw); go_simp)
      try with_reducible rfl
    try simp only [Act.put, List.setIfInBounds_toArray, List.set_cons_zero, List.set_cons_succ]
    refine wpAnyH_take (i := 12) (oi := ⟨some 50, _, _, _, _, _⟩) (v := ?_) rfl (by kernel_rfl) (by kernel_rfl) (by kernel_rfl) (fun _ _ _ h => h) (Or.inl ⟨by rfl, ?_⟩) (by assumption) ?_
    rotate_left
    · (intro w hSw; (try dsimp only at hSw); go_simp)
      try with_reducible rfl
    try simp only [Act.put, List.setIfInBounds_toArray, List.set_cons_zero, List.set_cons_succ]
    refine wpAnyH_take (i := 13) (oi := ⟨some 51, _, _, _, _, _⟩) (v := ?_) rfl (by kernel_rfl) (by kernel_rfl) (by kernel_rfl) (fun _ _ _ h => h) (Or.inl ⟨by rfl, ?_⟩) (by assumption) ?_
    rotate_left
    · (intro w hSw; (try dsimp only at hSw); go_simp)
      try with_reducible rfl
    try simp only [Act.put, List.setIfInBounds_toArray, List.set_cons_zero, List.set_cons_succ]
    refine wpAnyH_take (i := 14) (oi := ⟨some 52, _, _, _, _, _⟩) (v := ?_) rfl (by kernel_rfl) (by kernel_rfl) (by kernel_rfl) (fun _ _ _ h => h) (Or.inl ⟨by rfl, ?_⟩) (by assumption) ?_
    rotate_left
    · (intro w hSw; (try dsimp only at hSw); go_simp)
      try with_reducible rfl
    try simp only [Act.put, List.setIfInBounds_toArray, List.set_cons_zero, List.set_cons_succ]
    refine wpAnyH_take (i := 15) (oi := ⟨some 53, _, _, _, _, _⟩) (v := ?_) rfl (by kernel_rfl) (by kernel_rfl) (by kernel_rfl) (fun _ _ _ h => h) (Or.inl ⟨by rfl, ?_⟩) (by assumption) ?_
    rotate_left
    · (intro w hSw; (try dsimp only at hSw); go_simp)
      try with_reducible rfl
    try simp only [Act.put, List.setIfInBounds_toArray, List.set_cons_zero, List.set_cons_succ]
    refine wpAnyH_take (i := 16) (oi := ⟨some 54, _, _, _, _, _⟩) (v := ?_) rfl (by kernel_rfl) (by kernel_rfl) (by kernel_rfl) (fun _ _ _ h => h) (Or.inl ⟨by rfl, ?_⟩) (by assumption) ?_
    rotate_left
    · (intro w hSw; (try dsimp only at hSw); go_simp)
      try with_reducible rfl
    try simp only [Act.put, List.setIfInBounds_toArray, List.set_cons_zero, List.set_cons_succ]
    refine wpAnyH_take (i := 17) (oi := ⟨some 55, _, _, _, _, _⟩) (v := ?_) rfl (by kernel_rfl) (by kernel_rfl) (by kernel_rfl) (fun _ _ _ h => h) (Or.inl ⟨by rfl, ?_⟩) (by assumption) ?_
    rotate_left
    · (intro w hSw; (try dsimp only at hSw); go_simp)
      try with_reducible rfl
    try simp only [Act.put, List.setIfInBounds_toArray, List.set_cons_zero, List.set_cons_succ]
    refine wpAnyH_take (i := 18) (oi := ⟨some 56, _, _, _, _, _⟩) (v := ?_) rfl (by kernel_rfl) (by kernel_rfl) (by kernel_rfl) (fun _ _ _ h => h) (Or.inl ⟨by rfl, ?_⟩) (by assumption) ?_
    rotate_left
    · (intro w hSw; (try dsimp only at hSw); go_simp)
      try with_reducible rfl
    try simp only [Act.put, List.setIfInBounds_toArray, List.set_cons_zero, List.set_cons_succ]
    refine wpAnyH_take (i := 19) (oi := ⟨some 57, _, _, _, _, _⟩) (v := ?_) rfl (by kernel_rfl) (by kernel_rfl) (by kernel_rfl) (fun _ _ _ h => h) (Or.inl ⟨by rfl, ?_⟩) (by assumption) ?_
    rotate_left
    · (intro w hSw; (try dsimp only at hSw); go_simp)
      try with_reducible rfl
    try simp only [Act.put, List.setIfInBounds_toArray, List.set_cons_zero, List.set_cons_succ]
    refine wpAnyH_take (i := 20) (oi := ⟨some 58, _, _, _, _, _⟩) (v := ?_) rfl (by kernel_rfl) (by kernel_rfl) (by kernel_rfl) (fun _ _ _ h => h) (Or.inl ⟨by rfl, ?_⟩) (by assumption) ?_
    rotate_left
    · (intro w hSw; (try dsimp only at hSw); go_simp)
      try with_reducible rfl
    try simp only [Act.put, List.setIfInBounds_toArray, List.set_cons_zero, List.set_cons_succ]
    refine wpAnyH_take (i := 21) (oi := ⟨some 59, _, _, _, _, _⟩) (v := ?_) rfl (by kernel_rfl) (by kernel_rfl) (by kernel_rfl) (fun _ _ _ h => h) (Or.inl ⟨by rfl, ?_⟩) (by assumption) ?_
    rotate_left
    · (intro w hSw; (try dsimp only at hSw); go_simp)
      try with_reducible rfl
    try simp only [Act.put, List.setIfInBounds_toArray, List.set_cons_zero, List.set_cons_succ]
    refine wpAnyH_take (i := 22) (oi := ⟨some 60, _, _, _, _, _⟩) (v := ?_) rfl (by kernel_rfl) (by kernel_rfl) (by kernel_rfl) (fun _ _ _ h => h) (Or.inl ⟨by rfl, ?_⟩) (by assumption) ?_
    rotate_left
    · (intro w hSw; (try dsimp only at hSw); go_simp)
      try with_reducible rfl
    try simp only [Act.put, List.setIfInBounds_toArray, List.set_cons_zero, List.set_cons_succ]
    refine wpAnyH_take (i := 23) (oi := ⟨some 61, _, _, _, _, _⟩) (v := ?_) rfl (by kernel_rfl) (by kernel_rfl) (by kernel_rfl) (fun _ _ _ h => h) (Or.inl ⟨by rfl, ?_⟩) (by assumption) ?_
    rotate_left
    · (intro w hSw; (try dsimp only at hSw); go_simp)
      try with_reducible rfl
    try simp only [Act.put, List.setIfInBounds_toArray, List.set_cons_zero, List.set_cons_succ]
    refine wpAnyH_take (i := 24) (oi := ⟨some 62, _, _, _, _, _⟩) (v := ?_) rfl (by kernel_rfl) (by kernel_rfl) (by kernel_rfl) (fun _ _ _ h => h) (Or.inl ⟨by rfl, ?_⟩) (by assumption) ?_
    rotate_left
    · (intro w hSw; (try dsimp only at hSw); go_simp)
      try with_reducible rfl
    try simp only [Act.put, List.setIfInBounds_toArray, List.set_cons_zero, List.set_cons_succ]
    refine wpAnyH_take (i := 25) (oi := ⟨some 63, _, _, _, _, _⟩) (v := ?_) rfl (by kernel_rfl) (by kernel_rfl) (by kernel_rfl) (fun _ _ _ h => h) (Or.inl ⟨by rfl, ?_⟩) (by assumption) ?_
    rotate_left
    · (intro w hSw; (try dsimp only at hSw); go_simp)
      try with_reducible rfl
    try simp only [Act.put, List.setIfInBounds_toArray, List.set_cons_zero, List.set_cons_succ]
    refine wpAnyH_take (i := 26) (oi := ⟨some 64, _, _, _, _, _⟩) (v := ?_) rfl (by kernel_rfl) (by kernel_rfl) (by kernel_rfl) (fun _ _ _ h => h) (Or.inl ⟨by rfl, ?_⟩) (by assumption) ?_
    rotate_left
    · (intro w hSw; (try dsimp only at hSw); go_simp)
      try with_reducible rfl
    try simp only [Act.put, List.setIfInBounds_toArray, List.set_cons_zero, List.set_cons_succ]
    refine wpAnyH_take (i := 27) (oi := ⟨some 65, _, _, _, _, _⟩) (v := ?_) rfl (by kernel_rfl) (by kernel_rfl) (by kernel_rfl) (fun _ _ _ h => h) (Or.inl ⟨by rfl, ?_⟩) (by assumption) ?_
    rotate_left
    · (intro w hSw; (try dsimp only at hSw); go_simp)
      try with_reducible rfl
    try simp only [Act.put, List.setIfInBounds_toArray, List.set_cons_zero, List.set_cons_succ]
    refine wpAnyH_take (i := 28) (oi := ⟨some 66, _, _, _, _, _⟩) (v := ?_) rfl (by kernel_rfl) (by kernel_rfl) (by kernel_rfl) (fun _ _ _ h => h) (Or.inl ⟨by rfl, ?_⟩) (by assumption) ?_
    rotate_left
    · (intro w hSw; (try dsimp only at hSw); go_simp)
      try with_reducible rfl
    try simp only [Act.put, List.setIfInBounds_toArray, List.set_cons_zero, List.set_cons_succ]
    refine wpAnyH_take (i := 29) (oi := ⟨some 67, _, _, _, _, _⟩) (v := ?_) rfl (by kernel_rfl) (by kernel_rfl) (by kernel_rfl) (fun _ _ _ h => h) (Or.inl ⟨by rfl, ?_⟩) (by assumption) ?_
    rotate_left
    · (intro w hSw; (try dsimp only at hSw); go_simp)
      try with_reducible rfl
    try simp only [Act.put, List.setIfInBounds_toArray, List.set_cons_zero, List.set_cons_succ]
    refine wpAnyH_take (i := 30) (oi := ⟨some 68, _, _, _, _, _⟩) (v := ?_) rfl (by kernel_rfl) (by kernel_rfl) (by kernel_rfl) (fun _ _ _ h => h) (Or.inl ⟨by rfl, ?_⟩) (by assumption) ?_
    rotate_left
    · (intro w hSw; (try dsimp only at hSw); go_simp)
      try with_reducible rfl
    try simp only [Act.put, List.setIfInBounds_toArray, List.set_cons_zero, List.set_cons_succ]
    refine wpAnyH_take (i := 31) (oi := ⟨some 69, _, _, _, _, _⟩) (v := ?_) rfl (by kernel_rfl) (by kernel_rfl) (by kernel_rfl) (fun _ _ _ h => h) (Or.inl ⟨by rfl, ?_⟩) (by assumption) ?_
    rotate_left
    · (intro w hSw; (try dsimp only at hSw); go_simp)
      try with_reducible rfl
    try simp only [Act.put, List.setIfInBounds_toArray, List.set_cons_zero, List.set_cons_succ]
    refine wpAnyH_take (i := 32) (oi := ⟨some 70, _, _, _, _, _⟩) (v := ?_) rfl (by kernel_rfl) (by kernel_rfl) (by kernel_rfl) (fun _ _ _ h => h) (Or.inl ⟨by rfl, ?_⟩) (by assumption) ?_
    rotate_left
    · (intro w hSw; (try dsimp only at hSw); go_simp)
      try with_reducible rfl
    try simp only [Act.put, List.setIfInBounds_toArray, List.set_cons_zero, List.set_cons_succ]
    refine wpAnyH_take (i := 33) (oi := ⟨some 71, _, _, _, _, _⟩) (v := ?_) rfl (by kernel_rfl) (by kernel_rfl) (by kernel_rfl) (fun _ _ _ h => h) (Or.inl ⟨by rfl, ?_⟩) (by assumption) ?_
    rotate_left
    · (intro w hSw; (try dsimp only at hSw); go_simp)
      try with_reducible rfl
    try simp only [Act.put, List.setIfInBounds_toArray, List.set_cons_zero, List.set_cons_succ]
    refine wpAnyH_take (i := 34) (oi := ⟨some 72, _, _, _, _, _⟩) (v := ?_) rfl (by kernel_rfl) (by kernel_rfl) (by kernel_rfl) (fun _ _ _ h => h) (Or.inl ⟨by rfl, ?_⟩) (by assumption) ?_
    rotate_left
    · (intro w hSw; (try dsimp only at hSw); go_simp)
      try with_reducible rfl
    try simp only [Act.put, List.setIfInBounds_toArray, List.set_cons_zero, List.set_cons_succ]
    refine wpAnyH_take (i := 35) (oi := ⟨some 73, _, _, _, _, _⟩) (v := ?_) rfl (by kernel_rfl) (by kernel_rfl) (by kernel_rfl) (fun _ _ _ h => h) (Or.inl ⟨by rfl, ?_⟩) (by assumption) ?_
    rotate_left
    · (intro w hSw; (try dsimp only at hSw); go_simp)
      try with_reducible rfl
    try simp only [Act.put, List.setIfInBounds_toArray, List.set_cons_zero, List.set_cons_succ]
    refine wpAnyH_take (i := 36) (oi := ⟨some 74, _, _, _, _, _⟩) (v := ?_) rfl (by kernel_rfl) (by kernel_rfl) (by kernel_rfl) (fun _ _ _ h => h) (Or.inl ⟨by rfl, ?_⟩) (by assumption) ?_
    rotate_left
    · (intro w hSw; (try dsimp only at hSw); go_simp)
      try with_reducible rfl
    try simp only [Act.put, List.setIfInBounds_toArray, List.set_cons_zero, List.set_cons_succ]
    refine wpAnyH_take (i := 37) (oi := ⟨some 75, _, _, _, _, _⟩) (v := ?_) rfl (by kernel_rfl) (by kernel_rfl) (by kernel_rfl) (fun _ _ _ h => h) (Or.inl ⟨by rfl, ?_⟩) (by assumption) ?_
    rotate_left
    · (intro w hSw; (try dsimp only at hSw); go_simp)
      try with_reducible rfl
    try simp only [Act.put, List.setIfInBounds_toArray, List.set_cons_zero, List.set_cons_succ]
    refine wpAnyH_take (i := 38) (oi := ⟨some 76, _, _, _, _, _⟩) (v := ?_) rfl (by kernel_rfl) (by kernel_rfl) (by kernel_rfl) (fun _ _ _ h => h) (Or.inl ⟨by rfl, ?_⟩) (by assumption) ?_
    rotate_left
    · (intro w hSw; (try dsimp only at hSw); go_simp)
      try with_reducible rfl
    try simp only [Act.put, List.setIfInBounds_toArray, List.set_cons_zero, List.set_cons_succ]
    refine wpAnyH_take (i := 39) (oi := ⟨some 77, _, _, _, _, _⟩) (v := ?_) rfl (by kernel_rfl) (by kernel_rfl) (by kernel_rfl) (fun _ _ _ h => h) (Or.inl ⟨by rfl, ?_⟩) (by assumption) ?_
    rotate_left
    · (intro w hSw; (try dsimp only at hSw); go_simp)
      try with_reducible rfl
    try simp only [Act.put, List.setIfInBounds_toArray, List.set_cons_zero, List.set_cons_succ]
    refine wpAnyH_take (i := 40) (oi := ⟨some 78, _, _, _, _, _⟩) (v := ?_) rfl (by kernel_rfl) (by kernel_rfl) (by kernel_rfl) (fun _ _ _ h => h) (Or.inl ⟨by rfl, ?_⟩) (by assumption) ?_
    rotate_left
    · (intro w hSw; (try dsimp only at hSw); go_simp)
      try with_reducible rfl
    try simp only [Act.put, List.setIfInBounds_toArray, List.set_cons_zero, List.set_cons_succ]
    refine wpAnyH_take (i := 41) (oi := ⟨some 79, _, _, _, _, _⟩) (v := ?_) rfl (by kernel_rfl) (by kernel_rfl) (by kernel_rfl) (fun _ _ _ h => h) (Or.inl ⟨by rfl, ?_⟩) (by assumption) ?_
    rotate_left
    · (intro w hSw; (try dsimp only at hSw); go_simp)
      try with_reducible rfl
    try simp only [Act.put, List.setIfInBounds_toArray, List.set_cons_zero, List.set_cons_succ]
    refine wpAnyH_take (i := 42) (oi := ⟨some 80, _, _, _, _, _⟩) (v := ?_) rfl (by kernel_rfl) (by kernel_rfl) (by kernel_rfl) (fun _ _ _ h => h) (Or.inl ⟨by rfl, ?_⟩) (by assumption) ?_
    rotate_left
    · (intro w hSw; (try dsimp only at hSw); go_simp)
      try with_reducible rfl
    try simp only [Act.put, List.setIfInBounds_toArray, List.set_cons_zero, List.set_cons_succ]
    refine wpAnyH_take (i := 43) (oi := ⟨some 81, _, _, _, _, _⟩) (v := ?_) rfl (by kernel_rfl) (by kernel_rfl) (by kernel_rfl) (fun _ _ _ h => h) (Or.inl ⟨by rfl, ?_⟩) (by assumption) ?_
    rotate_left
    · (intro w hSw; (try dsimp only at hSw); go_simp)
      try with_reducible rfl
    try simp only [Act.put, List.setIfInBounds_toArray, List.set_cons_zero, List.set_cons_succ]
    refine wpAnyH_take (i := 44) (oi := ⟨some 82, _, _, _, _, _⟩) (v := ?_) rfl (by kernel_rfl) (by kernel_rfl) (by kernel_rfl) (fun _ _ _ h => h) (Or.inl ⟨by rfl, ?_⟩) (by assumption) ?_
    rotate_left
    · (intro w hSw; (try dsimp only at hSw); go_simp)
      try with_reducible rfl
    try simp only [Act.put, List.setIfInBounds_toArray, List.set_cons_zero, List.set_cons_succ]
    refine wpAnyH_take (i := 45) (oi := ⟨some 83, _, _, _, _, _⟩) (v := ?_) rfl (by kernel_rfl) (by kernel_rfl) (by kernel_rfl) (fun _ _ _ h => h) (Or.inl ⟨by rfl, ?_⟩) (by assumption) ?_
    rotate_left
    · (intro w hSw; (try dsimp only at hSw); go_simp)
      try with_reducible rfl
    try simp only [Act.put, List.setIfInBounds_toArray, List.set_cons_zero, List.set_cons_succ]
    refine wpAnyH_take (i := 46) (oi := ⟨some 84, _, _, _, _, _⟩) (v := ?_) rfl (by kernel_rfl) (by kernel_rfl) (by kernel_rfl) (fun _ _ _ h => h) (Or.inl ⟨by rfl, ?_⟩) (by assumption) ?_
    rotate_left
    · (intro w hSw; (try dsimp only at hSw); go_simp)
      try with_reducible rfl
    try simp only [Act.put, List.setIfInBounds_toArray, List.set_cons_zero, List.set_cons_succ]
    refine wpAnyH_take (i := 47) (oi := ⟨some 85, _, _, _, _, _⟩) (v := ?_) rfl (by kernel_rfl) (by kernel_rfl) (by kernel_rfl) (fun _ _ _ h => h) (Or.inl ⟨by rfl, ?_⟩) (by assumption) ?_
    rotate_left
    · (intro w hSw; (try dsimp only at hSw); go_simp)
      try with_reducible rfl
    try simp only [Act.put, List.setIfInBounds_toArray, List.set_cons_zero, List.set_cons_succ]
    refine wpAnyH_take (i := 48) (oi := ⟨some 86, _, _, _, _, _⟩) (v := ?_) rfl (by kernel_rfl) (by kernel_rfl) (by kernel_rfl) (fun _ _ _ h => h) (Or.inl ⟨by rfl, ?_⟩) (by assumption) ?_
    rotate_left
    · (intro w hSw; (try dsimp only at hSw); go_simp)
      try with_reducible rfl
    try simp only [Act.put, List.setIfInBounds_toArray, List.set_cons_zero, List.set_cons_succ]
    refine wpAnyH_take (i := 49) (oi := ⟨some 87, _, _, _, _, _⟩) (v := ?_) rfl (by kernel_rfl) (by kernel_rfl) (by kernel_rfl) (fun _ _ _ h => h) (Or.inl ⟨by rfl, ?_⟩) (by assumption) ?_
    rotate_left
    · (intro w hSw; (try dsimp only at hSw); go_simp)
      try with_reducible rfl
    try simp only [Act.put, List.setIfInBounds_toArray, List.set_cons_zero, List.set_cons_succ]
    refine wpAnyH_take (i := 50) (oi := ⟨some 88, _, _, _, _, _⟩) (v := ?_) rfl (by kernel_rfl) (by kernel_rfl) (by kernel_rfl) (fun _ _ _ h => h) (Or.inl ⟨by rfl, ?_⟩) (by assumption) ?_
    rotate_left
    · (intro w hSw; (try dsimp only at hSw); go_simp)
      try with_reducible rfl
    try simp only [Act.put, List.setIfInBounds_toArray, List.set_cons_zero, List.set_cons_succ]
    refine wpAnyH_take (i := 51) (oi := ⟨some 89, _, _, _, _, _⟩) (v := ?_) rfl (by kernel_rfl) (by kernel_rfl) (by kernel_rfl) (fun _ _ _ h => h) (Or.inl ⟨by rfl, ?_⟩) (by assumption) ?_
    rotate_left
    · (intro w hSw; (try dsimp only at hSw); go_simp)
      try with_reducible rfl
    try simp only [Act.put, List.setIfInBounds_toArray, List.set_cons_zero, List.set_cons_succ]
    refine wpAnyH_take (i := 52) (oi := ⟨some 90, _, _, _, _, _⟩) (v := ?_) rfl (by kernel_rfl) (by kernel_rfl) (by kernel_rfl) (fun _ _ _ h => h) (Or.inl ⟨by rfl, ?_⟩) (by assumption) ?_
    rotate_left
    · (intro w hSw; (try dsimp only at hSw); go_simp)
      try with_reducible rfl
    try simp only [Act.put, List.setIfInBounds_toArray, List.set_cons_zero, List.set_cons_succ]
    refine wpAnyH_take (i := 53) (oi := ⟨some 91, _, _, _, _, _⟩) (v := ?_) rfl (by kernel_rfl) (by kernel_rfl) (by kernel_rfl) (fun _ _ _ h => h) (Or.inl ⟨by rfl, ?_⟩) (by assumption) ?_
    rotate_left
    · (intro w hSw; (try dsimp only at hSw); go_simp)
      try with_reducible rfl
    try simp only [Act.put, List.setIfInBounds_toArray, List.set_cons_zero, List.set_cons_succ]
    refine wpAnyH_take (i := 54) (oi := ⟨some 92, _, _, _, _, _⟩) (v := ?_) rfl (by kernel_rfl) (by kernel_rfl) (by kernel_rfl) (fun _ _ _ h => h) (Or.inl ⟨by rfl, ?_⟩) (by assumption) ?_
    rotate_left
    · (intro w hSw; (try dsimp only at hSw); go_simp)
      try with_reducible rfl
    try simp only [Act.put, List.setIfInBounds_toArray, List.set_cons_zero, List.set_cons_succ]
    refine wpAnyH_take (i := 55) (oi := ⟨some 93, _, _, _, _, _⟩) (v := ?_) rfl (by kernel_rfl) (by kernel_rfl) (by kernel_rfl) (fun _ _ _ h => h) (Or.inl ⟨by rfl, ?_⟩) (by assumption) ?_
    rotate_left
    · (intro w hSw; (try dsimp only at hSw); go_simp)
      try with_reducible rfl
    try simp only [Act.put, List.setIfInBounds_toArray, List.set_cons_zero, List.set_cons_succ]
    refine wpAnyH_take (i := 56) (oi := ⟨some 94, _, _, _, _, _⟩) (v := ?_) rfl (by kernel_rfl) (by kernel_rfl) (by kernel_rfl) (fun _ _ _ h => h) (Or.inl ⟨by rfl, ?_⟩) (by assumption) ?_
    rotate_left
    · (intro w hSw; (try dsimp only at hSw); go_simp)
      try with_reducible rfl
    try simp only [Act.put, List.setIfInBounds_toArray, List.set_cons_zero, List.set_cons_succ]
    refine wpAnyH_take (i := 57) (oi := ⟨some 95, _, _, _, _, _⟩) (v := ?_) rfl (by kernel_rfl) (by kernel_rfl) (by kernel_rfl) (fun _ _ _ h => h) (Or.inl ⟨by rfl, ?_⟩) (by assumption) ?_
    rotate_left
    · (intro w hSw; (try dsimp only at hSw); go_simp)
      try with_reducible rfl
    try simp only [Act.put, List.setIfInBounds_toArray, List.set_cons_zero, List.set_cons_succ]
    refine wpAnyH_take (i := 58) (oi := ⟨some 96, _, _, _, _, _⟩) (v := ?_) rfl (by kernel_rfl) (by kernel_rfl) (by kernel_rfl) (fun _ _ _ h => h) (Or.inl ⟨by rfl, ?_⟩) (by assumption) ?_
    rotate_left
    · (intro w hSw; (try dsimp only at hSw); go_simp)
      try with_reducible rfl
    try simp only [Act.put, List.setIfInBounds_toArray, List.set_cons_zero, List.set_cons_succ]
    refine wpAnyH_take (i := 59) (oi := ⟨some 97, _, _, _, _, _⟩) (v := ?_) rfl (by kernel_rfl) (by kernel_rfl) (by kernel_rfl) (fun _ _ _ h => h) (Or.inl ⟨by rfl, ?_⟩) (by assumption) ?_
    rotate_left
    · (intro w hSw; (try dsimp only at hSw); go_simp)
      try with_reducible rfl
    try simp only [Act.put, List.setIfInBounds_toArray, List.set_cons_zero, List.set_cons_succ]
    refine wpAnyH_take (i := 60) (oi := ⟨some 98, _, _, _, _, _⟩) (v := ?_) rfl (by kernel_rfl) (by kernel_rfl) (by kernel_rfl) (fun _ _ _ h => h) (Or.inl ⟨by rfl, ?_⟩) (by assumption) ?_
    rotate_left
    · (intro w hSw; (try dsimp only at hSw); go_simp)
      try with_reducible rfl
    try simp only [Act.put, List.setIfInBounds_toArray, List.set_cons_zero, List.set_cons_succ]
    refine wpAnyH_take (i := 61) (oi := ⟨some 99, _, _, _, _, _⟩) (v := ?_) rfl (by kernel_rfl) (by kernel_rfl) (by kernel_rfl) (fun _ _ _ h => h) (Or.inl ⟨by rfl, ?_⟩) (by assumption) ?_
    rotate_left
    · (intro w hSw; (try dsimp only at hSw); go_simp)
      try with_reducible rfl
    try simp only [Act.put, List.setIfInBounds_toArray, List.set_cons_zero, List.set_cons_succ]
    refine wpAnyH_take (i := 62) (oi := ⟨some 100, _, _, _, _, _⟩) (v := ?_) rfl (by kernel_rfl) (by kernel_rfl) (by kernel_rfl) (fun _ _ _ h => h) (Or.inl ⟨by rfl, ?_⟩) (by assumption) ?_
    rotate_left
    · (intro w hSw; (try dsimp only at hSw); go_simp)
      try with_reducible rfl
    try simp only [Act.put, List.setIfInBounds_toArray, List.set_cons_zero, List.set_cons_succ]
    refine wpAnyH_take (i := 63) (oi := ⟨some 101, _, _, _, _, _⟩) (v := ?_) rfl (by kernel_rfl) (by kernel_rfl) (by kernel_rfl) (fun _ _ _ h => h) (Or.inl ⟨by rfl, ?_⟩) (by assumption) ?_
    rotate_left
    · (intro w hSw; (try dsimp only at hSw); go_simp)
      try with_reducible rfl
    try simp only [Act.put, List.setIfInBounds_toArray, List.set_cons_zero, List.set_cons_succ]
    refine wpAnyH_take (i := 64) (oi := ⟨some 102, _, _, _, _, _⟩) (v := ?_) rfl (by kernel_rfl) (by kernel_rfl) (by kernel_rfl) (fun _ _ _ h => h) (Or.inl ⟨by rfl, ?_⟩) (by assumption) ?_
    rotate_left
    · (intro w hSw; (try dsimp only at hSw); go_simp)
      try with_reducible rfl
    try simp only [Act.put, List.setIfInBounds_toArray, List.set_cons_zero, List.set_cons_succ]
    refine wpAnyH_take (i := 65) (oi := ⟨some 103, _, _, _, _, _⟩) (v := ?_) rfl (by kernel_rfl) (by kernel_rfl) (by kernel_rfl) (fun _ _ _ h => h) (Or.inl ⟨by rfl, ?_⟩) (by assumption) ?_
    rotate_left
    · (intro w hSw; (try dsimp only at hSw); go_simp)
      try with_reducible rfl
    try simp only [Act.put, List.setIfInBounds_toArray, List.set_cons_zero, List.set_cons_succ]
    refine wpAnyH_take (i := 66) (oi := ⟨some 104, _, _, _, _, _⟩) (v := ?_) rfl (by kernel_rfl) (by kernel_rfl) (by kernel_rfl) (fun _ _ _ h => h) (Or.inl ⟨by rfl, ?_⟩) (by assumption) ?_
    rotate_left
    · (intro w hSw; (try dsimp only at hSw); go_simp)
      try with_reducible rfl
    try simp only [Act.put, List.setIfInBounds_toArray, List.set_cons_zero, List.set_cons_succ]
    refine wpAnyH_take (i := 67) (oi := ⟨some 105, _, _, _, _, _⟩) (v := ?_) rfl (by kernel_rfl) (by kernel_rfl) (by kernel_rfl) (fun _ _ _ h => h) (Or.inl ⟨by rfl, ?_⟩) (by assumption) ?_
    rotate_left
    · (intro w hSw; (try dsimp only at hSw); go_simp)
      try with_reducible rfl
    try simp only [Act.put, List.setIfInBounds_toArray, List.set_cons_zero, List.set_cons_succ]
    refine wpAnyH_take (i := 68) (oi := ⟨some 106, _, _, _, _, _⟩) (v := ?_) rfl (by kernel_rfl) (by kernel_rfl) (by kernel_rfl) (fun _ _ _ h => h) (Or.inl ⟨by rfl, ?_⟩) (by assumption) ?_
    rotate_left
    · (intro w hSw; (try dsimp only at hSw); go_simp)
      try with_reducible rfl
    try simp only [Act.put, List.setIfInBounds_toArray, List.set_cons_zero, List.set_cons_succ]
    refine wpAnyH_ready (rs := [69]) (by kernel_rfl) (by simp) ?_
    refine AllReadyH.cons (o := _) rfl (fun K hK => ?_) AllReadyH.nil
    rw [if_pos (by rfl)]
    go_simp
    have BZ := Aside0.mk (show Below W3.heap.size W3 (W3.alloc (.cells MC 5)).drew from below_drew (below_alloc HR3.out _))
    refine hK.out _ _ (KQ.out _ BZ.out) (fun hS1 => ?_)
    clear hS0
    try simp only [Act.put, List.setIfInBounds_toArray, List.set_cons_zero, List.set_cons_succ]
    refine wpAnyH_ready (rs := [70]) (by kernel_rfl) (by simp) ?_
    refine AllReadyH.cons (o := _) rfl (fun K hK => ?_) AllReadyH.nil
    rw [if_pos (by rfl)]
    go_simp
    refine hK.out _ _ (KQ.out _ BZ.out) (fun hS2 => ?_)
    clear hS1
    try simp only [Act.put, List.setIfInBounds_toArray, List.set_cons_zero, List.set_cons_succ]
    refine wpAnyH_take (i := 71) (oi := ⟨some 109, _, _, _, _, _⟩) (v := ?_) rfl (by kernel_rfl) (by kernel_rfl) (by kernel_rfl) (fun _ _ _ h => h) (Or.inl ⟨by rfl, ?_⟩) (by assumption) ?_
    rotate_left
    · (intro w hSw; (try dsimp only at hSw); go_simp)
      try with_reducible rfl
    try simp only [Act.put, List.setIfInBounds_toArray, List.set_cons_zero, List.set_cons_succ]
    refine wpAnyH_take (i := 72) (oi := ⟨some 110, _, _, _, _, _⟩) (v := ?_) rfl (by kernel_rfl) (by kernel_rfl) (by kernel_rfl) (fun _ _ _ h => h) (Or.inl ⟨by rfl, ?_⟩) (by assumption) ?_
    rotate_left
    · (intro w hSw; (try dsimp only at hSw); go_simp)
      try with_reducible rfl
    try simp only [Act.put, List.setIfInBounds_toArray, List.set_cons_zero, List.set_cons_succ]
    refine wpAnyH_take (i := 73) (oi := ⟨some 111, _, _, _, _, _⟩) (v := ?_) rfl (by kernel_rfl) (by kernel_rfl) (by kernel_rfl) (fun _ _ _ h => h) (Or.inl ⟨by rfl, ?_⟩) (by assumption) ?_
    rotate_left
    · (intro w hSw; (try dsimp only at hSw); go_simp)
      try with_reducible rfl
    try simp only [Act.put, List.setIfInBounds_toArray, List.set_cons_zero, List.set_cons_succ]
    refine wpAnyH_ready (rs := [74]) (by kernel_rfl) (by simp) ?_
    refine AllReadyH.cons (o := _) rfl (fun K hK => ?_) AllReadyH.nil
    rw [if_pos (by rfl)]
    go_simp
    refine (awake_any _ (HG.out.below (below_next B5.out BZ.out))).mono ?_
    rintro e wq ⟨rfl, hbp⟩
    have BQ := Aside0.mk (below_next BZ.out hbp)
    clear hbp
    dsimp only
    refine hK.out _ _ (KQ.out _ BQ.out) (fun hS3 => ?_)
    clear hS2
    try simp only [Act.put, List.setIfInBounds_toArray, List.set_cons_zero, List.set_cons_succ]
    refine wpAnyH_take (i := 75) (oi := ⟨some 113, _, _, _, _, _⟩) (v := ?_) rfl (by kernel_rfl) (by kernel_rfl) (by kernel_rfl) (fun _ _ _ h => h) (Or.inl ⟨by rfl, ?_⟩) (by assumption) ?_
    rotate_left
    · (intro w hSw; (try dsimp only at hSw); go_simp)
      try with_reducible rfl
    try simp only [Act.put, List.setIfInBounds_toArray, List.set_cons_zero, List.set_cons_succ]
    refine wpAnyH_take (i := 76) (oi := ⟨some 8, _, _, _, _, _⟩) (v := ?_) rfl (by kernel_rfl) (by kernel_rfl) (by kernel_rfl) (fun _ _ _ h => h) (Or.inl ⟨by rfl, ?_⟩) (by assumption) ?_
    rotate_left
    · (intro w hSw; (try dsimp only at hSw); go_simp)
      try with_reducible rfl
    try simp only [Act.put, List.setIfInBounds_toArray, List.set_cons_zero, List.set_cons_succ]
    refine wpAnyH_done (by kernel_rfl) ?_ _
    refine NoPanic.normal ?_
    go_wp2
    go_ret
    exact ⟨rfl, below_next B5.out BQ.out⟩
theorem headFields_walk (a b : ByteArray) (A : Option Addr) (len cap : Nat) (zs : List Int) (t : Int) (w : World) (hG : Good w) (ha : a.size ≤ 140737488351232) (hb : b.size ≤ 140737488351232)
    (hz : (A = none ∧ len = 0 ∧ cap = 0 ∧ zs = []) ∨ ∃ x, A = some x ∧ len ≤ cap ∧ cap ≤ maxLen ∧ zs.length = cap ∧ (∀ i, i < zs.length → w.cell? (x.add i) = some (.int .u32 (zs.getD i 0))) ∧ ∀ n ∈ zs, (Lit.int .u32 n).wf = true)
    (hy : len * 4 ≤ 140737488351232) (ht : 0 ≤ t ∧ t ≤ 255) :
    Calls Tryd.prog 5 #[.string a, .string b, .slice A len cap, .int .u8 t] w fun e w' => e = .returned (.bool true) ∧ Below w.heap.size w w' := by
  obtain ⟨a, rfl⟩ := exists_mkS a
  obtain ⟨b, rfl⟩ := exists_mkS b
  obtain ⟨tt, rfl⟩ : ∃ x : UInt8, (x.toNat : Int) = t := ⟨UInt8.ofNat t.toNat, by simp; omega⟩
  by_cases h : 300 < a.length ∨ 300 < b.length
  · exact headFields_far a b A len cap tt w hG h
  · exact headFields_main a b A len cap zs tt w hG (nums_of_row hz hy) (by omega) (by omega)
end Go.Proofs.YtpmiddhdgidimaaDoor
