/- head.Put. -/
import Derived.Test.YtpmiddhdgidimaaGreatDoorHeadMay
import Derived.Deep.DrawnRows
set_option linter.unusedVariables false
set_option linter.unusedSimpArgs false
namespace Go.Proofs.YtpmiddhdgidimaaGreatDoor
open Go.RowKit Go.Proofs.YtpmiddhdgidimaaGreatDoorW.PrintWords

/-- A slice of one byte as a string. -/
theorem one_byte (W : World) (k : Nat) (b : UInt8) (h : W.heap[k]? = some (.cells #[.int .u8 (b.toNat : Int)] 5)) :
    (convert 40 9 (.slice (some ⟨k, 0, none⟩) 1 1)).run Tryz.prog W = .ok (.string (mkS [b])) W := by
  rw [run_convert_bytes_arg (P := Tryz.prog) _ 40 5 Tryz.underlying40 Tryz.underlying5 k 0 1 1 [(b.toNat : Int)] rfl (fun i hi => ?_) 9 Tryz.underlying9]
  · unfold strOfNums mkS; simp
  · have : i = 0 := by omega
    subst this
    exact blk_cell h 0
attribute [local go_sem ↓] Go.wp_at_zero Go.wp_at_succ
/-- Set aside for the second region, and for the third. -/
structure Put2 (p : Prop) : Prop where
  out : p
structure Put3 (p : Prop) : Prop where
  out : p
structure Put4 (p : Prop) : Prop where
  out : p
set_option maxHeartbeats 2000000 in
set_option maxRecDepth 100000 in
theorem put_not (h : Hd) (w : World) (hG : Good w) (hf : Fits h) (hm : mayH h = false) :
    Calls Tryz.prog 11 #[.agg (hdCells h)] w fun e w' => e = .returned (.string ⟨#[]⟩) ∧ Below w.heap.size w w' := by
  have HM := Aside0.mk (fun W hGW => may_any h W hGW hf)
  rw [hm] at HM
  have HG := Aside0.mk hG
  clear hG hf hm
  have HB0 := Aside0.mk (below_alloc (Below.refl w.heap.size w) (.cells (hdCells h) 23))
  obtain ⟨name, mode, uid, gid, size, mtime, typ, link, uname, gname, major, minor, pre⟩ := h
  unfold hdCells at HM HB0 ⊢
  simp only at HM HB0 ⊢
  go_enter Tryz.func11, Tryz.ntmps11
  go_wp2_with (go_at_call 9; refine (HM.out _ (HG.out.below HB0.out)).mono ?_; rintro e w1 ⟨rfl, hb1⟩)
  go_ret
  exact ⟨rfl, below_next HB0.out hb1⟩
set_option maxHeartbeats 40000000 in
set_option maxRecDepth 100000 in
theorem put_ok (h : Hd) (w : World) (hG : Good w) (hf : Fits h) (hm : mayH h = true) :
    Calls Tryz.prog 11 #[.agg (hdCells h)] w fun e w' => e = .returned (.string (mkS (blockT h))) ∧ Below w.heap.size w w' := by
  have HM := Aside0.mk (fun W hGW => may_any h W hGW hf)
  rw [hm] at HM
  have m := (mayH_iff h).1 hm
  have hi := hf.ints
  have HG := Aside0.mk hG
  have HB0 := Aside0.mk (below_alloc (Below.refl w.heap.size w) (.cells (hdCells h) 23))
  have g0 := heap_alloc_new w (.cells (hdCells h) 23)
  clear hG hf hm
  obtain ⟨name, mode, uid, gid, size, mtime, typ, link, uname, gname, major, minor, pre⟩ := h
  unfold hdCells at HM HB0 g0 ⊢
  simp only at HM HB0 g0 ⊢
  go_enter Tryz.func11, Tryz.ntmps11
  go_wp2_with (go_at_call 9; refine (HM.out _ (HG.out.below HB0.out)).mono ?_; rintro e w1 ⟨rfl, hb1⟩; have g1 := (hb1.block _ (blk_lt g0)).trans g0)
  obtain ⟨i1, i2, i3, i4, i5, i6, i7⟩ := hi
  simp only at i1 i2 i3 i4 i5 i6 i7
  have hlA := blockA_length m
  have hlB := blockB_length m
  obtain ⟨m1, m2, m3, m4, m5, m6, m7, m8, m9, m10, m11, m12⟩ := m
  simp only at m1 m2 m3 m4 m5 m6 m7 m8 m9 m10 m11 m12
  have hn := (textOk_le m1).1
  have hk := (textOk_le m2).1
  have hu := (textOk_le m3).1
  have hgn := (textOk_le m4).1
  have hpr := (textOk_le m5).1
  have q0 := fill_length name 100 hn
  have q1 := fld_length m6.1 (by decide)
  have q2 := fld_length m7.1 (by decide)
  have q3 := fld_length m8.1 (by decide)
  have q4 := fld_length m11.1 (by decide)
  have q5 := fld_length m12 (by decide)
  have q6 := fill_length link 100 hk
  have q7 := fill_length uname 32 hu
  have q8 := fill_length gname 32 hgn
  have q9 := fld_length m9.1 (by decide)
  have q10 := fld_length m10.1 (by decide)
  have q11 := fill_length pre 155 hpr
  have HT1 := Aside0.mk (fun W => text_any name 100 W hn (by omega))
  have HT2 := Aside0.mk (fun W => text_any link 100 W hk (by omega))
  have HT3 := Aside0.mk (fun W => text_any uname 32 W hu (by omega))
  have HT4 := Aside0.mk (fun W => text_any gname 32 W hgn (by omega))
  have HT5 := Aside0.mk (fun W => text_any pre 155 W hpr (by omega))
  have HF1 := Aside0.mk (fun W => fieldH_any mode 8 W (.inl rfl) i1.1 i1.2)
  have HF2 := Aside0.mk (fun W => fieldH_any uid 8 W (.inl rfl) i2.1 i2.2)
  have HF3 := Aside0.mk (fun W => fieldH_any gid 8 W (.inl rfl) i3.1 i3.2)
  have HF4 := Aside0.mk (fun W => fieldH_any size 12 W (.inr rfl) i4.1 i4.2)
  have HF5 := Aside0.mk (fun W => fieldH_any mtime 12 W (.inr rfl) i5.1 i5.2)
  have HF6 := Aside0.mk (fun W => fieldH_any major 8 W (.inl rfl) i6.1 i6.2)
  have HF7 := Aside0.mk (fun W => fieldH_any minor 8 W (.inl rfl) i7.1 i7.2)
  have eA : blockA ⟨name, mode, uid, gid, size, mtime, typ, link, uname, gname, major, minor, pre⟩ = ((((fill name 100 ++ fld mode 8) ++ fld uid 8) ++ fld gid 8) ++ fld size 12) ++ fld mtime 12 := rfl
  obtain ⟨A0, hA0⟩ : ∃ A0, fill name 100 = A0 := ⟨_, rfl⟩
  obtain ⟨F1, hF1⟩ : ∃ F1, fld mode 8 = F1 := ⟨_, rfl⟩
  obtain ⟨F2, hF2⟩ : ∃ F2, fld uid 8 = F2 := ⟨_, rfl⟩
  obtain ⟨F3, hF3⟩ : ∃ F3, fld gid 8 = F3 := ⟨_, rfl⟩
  obtain ⟨F4, hF4⟩ : ∃ F4, fld size 12 = F4 := ⟨_, rfl⟩
  obtain ⟨F5, hF5⟩ : ∃ F5, fld mtime 12 = F5 := ⟨_, rfl⟩
  rw [hA0, hF1, hF2, hF3, hF4, hF5] at eA
  rw [hA0] at q0 HT1
  rw [hF1] at q1 HF1
  rw [hF2] at q2 HF2
  rw [hF3] at q3 HF3
  rw [hF4] at q4 HF4
  rw [hF5] at q5 HF5
  obtain ⟨c1, hc1⟩ : ∃ c1, A0 ++ F1 = c1 := ⟨_, rfl⟩
  obtain ⟨c2, hc2⟩ : ∃ c2, c1 ++ F2 = c2 := ⟨_, rfl⟩
  obtain ⟨c3, hc3⟩ : ∃ c3, c2 ++ F3 = c3 := ⟨_, rfl⟩
  obtain ⟨c4, hc4⟩ : ∃ c4, c3 ++ F4 = c4 := ⟨_, rfl⟩
  obtain ⟨c5, hc5⟩ : ∃ c5, c4 ++ F5 = c5 := ⟨_, rfl⟩
  rw [hc1, hc2, hc3, hc4, hc5] at eA
  rw [eA] at hlA
  have l1 : c1.length = 108 := by rw [← hc1, List.length_append, q0, q1]
  have l2 : c2.length = 116 := by rw [← hc2, List.length_append, l1, q2]
  have l3 : c3.length = 124 := by rw [← hc3, List.length_append, l2, q3]
  have l4 : c4.length = 136 := by rw [← hc4, List.length_append, l3, q4]
  have b1 := fun W => str_add (P := Tryz.prog) (s := mkS A0) (t := mkS F1) rfl rfl hc1 (by omega) W
  have b2 := fun W => str_add (P := Tryz.prog) (s := mkS c1) (t := mkS F2) rfl rfl hc2 (by omega) W
  have b3 := fun W => str_add (P := Tryz.prog) (s := mkS c2) (t := mkS F3) rfl rfl hc3 (by omega) W
  have b4 := fun W => str_add (P := Tryz.prog) (s := mkS c3) (t := mkS F4) rfl rfl hc4 (by omega) W
  have b5 := fun W => str_add (P := Tryz.prog) (s := mkS c4) (t := mkS F5) rfl rfl hc5 (by omega) W
  have EA := Aside0.mk eA
  have eB : blockB ⟨name, mode, uid, gid, size, mtime, typ, link, uname, gname, major, minor, pre⟩ = [typ] ++ fill link 100 ++ magicL ++ fill uname 32 ++ fill gname 32 ++ fld major 8 ++ fld minor 8 ++ fill pre 155 ++ List.replicate 12 0 := rfl
  obtain ⟨L1, hL1⟩ : ∃ L1, fill link 100 = L1 := ⟨_, rfl⟩
  obtain ⟨U1, hU1⟩ : ∃ U1, fill uname 32 = U1 := ⟨_, rfl⟩
  obtain ⟨G1, hG1⟩ : ∃ G1, fill gname 32 = G1 := ⟨_, rfl⟩
  obtain ⟨M1, hM1⟩ : ∃ M1, fld major 8 = M1 := ⟨_, rfl⟩
  obtain ⟨N1, hN1⟩ : ∃ N1, fld minor 8 = N1 := ⟨_, rfl⟩
  obtain ⟨P1, hP1⟩ : ∃ P1, fill pre 155 = P1 := ⟨_, rfl⟩
  have HT0 := Aside0.mk (fun W => show Calls Tryz.prog 30 #[.string ⟨#[]⟩, .int .i64 8] W fun e w' => e = .returned (.string (mkS (List.replicate 8 0))) ∧ Below W.heap.size W w' from text_any [] 8 W (by decide) (by decide))
  have HT6 := Aside0.mk (fun W => show Calls Tryz.prog 30 #[.string ⟨#[]⟩, .int .i64 12] W fun e w' => e = .returned (.string (mkS (List.replicate 12 0))) ∧ Below W.heap.size W w' from text_any [] 12 W (by decide) (by decide))
  obtain ⟨Z8, hZ8⟩ : ∃ Z8, List.replicate 8 (0 : UInt8) = Z8 := ⟨_, rfl⟩
  obtain ⟨Z12, hZ12⟩ : ∃ Z12, List.replicate 12 (0 : UInt8) = Z12 := ⟨_, rfl⟩
  have z8 : Z8.length = 8 := by rw [← hZ8]; rfl
  have z12 : Z12.length = 12 := by rw [← hZ12]; rfl
  rw [hL1] at q6 HT2
  rw [hU1] at q7 HT3
  rw [hG1] at q8 HT4
  rw [hM1] at q9 HF6
  rw [hN1] at q10 HF7
  rw [hP1] at q11 HT5
  rw [hZ8] at HT0
  rw [hZ12] at HT6
  rw [hL1, hU1, hG1, hM1, hN1, hP1, hZ12] at eB
  obtain ⟨d1, hd1⟩ : ∃ d1, Z8 ++ [typ] = d1 := ⟨_, rfl⟩
  obtain ⟨d2, hd2⟩ : ∃ d2, d1 ++ L1 = d2 := ⟨_, rfl⟩
  obtain ⟨d3, hd3⟩ : ∃ d3, d2 ++ magicL = d3 := ⟨_, rfl⟩
  obtain ⟨d4, hd4⟩ : ∃ d4, d3 ++ U1 = d4 := ⟨_, rfl⟩
  obtain ⟨d5, hd5⟩ : ∃ d5, d4 ++ G1 = d5 := ⟨_, rfl⟩
  obtain ⟨s2, hs2⟩ : ∃ s2, c5 ++ d5 = s2 := ⟨_, rfl⟩
  obtain ⟨e1, he1⟩ : ∃ e1, M1 ++ N1 = e1 := ⟨_, rfl⟩
  obtain ⟨e2, he2⟩ : ∃ e2, e1 ++ P1 = e2 := ⟨_, rfl⟩
  obtain ⟨e3, he3⟩ : ∃ e3, e2 ++ Z12 = e3 := ⟨_, rfl⟩
  obtain ⟨s3, hs3⟩ : ∃ s3, s2 ++ e3 = s3 := ⟨_, rfl⟩
  have r1 : d1.length = 9 := by rw [← hd1, List.length_append, z8]; rfl
  have r2 : d2.length = 109 := by rw [← hd2, List.length_append, r1, q6]
  have r3 : d3.length = 117 := by rw [← hd3, List.length_append, r2]; rfl
  have r4 : d4.length = 149 := by rw [← hd4, List.length_append, r3, q7]
  have r5 : d5.length = 181 := by rw [← hd5, List.length_append, r4, q8]
  have r6 : s2.length = 329 := by rw [← hs2, List.length_append, hlA, r5]
  have r7 : e1.length = 16 := by rw [← he1, List.length_append, q9, q10]
  have r8 : e2.length = 171 := by rw [← he2, List.length_append, r7, q11]
  have r9 : e3.length = 183 := by rw [← he3, List.length_append, r8, z12]
  have r10 : s3.length = 512 := by rw [← hs3, List.length_append, r6, r9]
  have k1 := fun W => str_add (P := Tryz.prog) (s := mkS Z8) (t := mkS [typ]) rfl rfl hd1 (by omega) W
  have k2 := fun W => str_add (P := Tryz.prog) (s := mkS d1) (t := mkS L1) rfl rfl hd2 (by omega) W
  have k3 := fun W => str_add (P := Tryz.prog) (s := mkS d2) (t := ⟨#[117, 115, 116, 97, 114, 0, 48, 48]⟩) (b := magicL) rfl rfl hd3 (by omega) W
  have k4 := fun W => str_add (P := Tryz.prog) (s := mkS d3) (t := mkS U1) rfl rfl hd4 (by omega) W
  have k5 := fun W => str_add (P := Tryz.prog) (s := mkS d4) (t := mkS G1) rfl rfl hd5 (by omega) W
  have k6 := fun W => str_add (P := Tryz.prog) (s := mkS c5) (t := mkS d5) rfl rfl hs2 (by omega) W
  have k7 := fun W => str_add (P := Tryz.prog) (s := mkS M1) (t := mkS N1) rfl rfl he1 (by omega) W
  have k8 := fun W => str_add (P := Tryz.prog) (s := mkS e1) (t := mkS P1) rfl rfl he2 (by omega) W
  have k9 := fun W => str_add (P := Tryz.prog) (s := mkS e2) (t := mkS Z12) rfl rfl he3 (by omega) W
  have k10 := fun W => str_add (P := Tryz.prog) (s := mkS s2) (t := mkS e3) rfl rfl hs3 (by omega) W
  have hall : s3 = c5 ++ (Z8 ++ blockB ⟨name, mode, uid, gid, size, mtime, typ, link, uname, gname, major, minor, pre⟩) := by
    rw [eB, ← hs3, ← hs2, ← hd5, ← hd4, ← hd3, ← hd2, ← hd1, ← he3, ← he2, ← he1]
    simp only [List.append_assoc]
  obtain ⟨B1, hB1⟩ : ∃ B1, blockB ⟨name, mode, uid, gid, size, mtime, typ, link, uname, gname, major, minor, pre⟩ = B1 := ⟨_, rfl⟩
  have htk : s3.take 148 = c5 := by rw [hall, ← hlA, List.take_left]
  have hdr : s3.drop 156 = B1 := by
    rw [hall, hB1, ← List.append_assoc, show 156 = (c5 ++ Z8).length by rw [List.length_append, hlA, z8], List.drop_left]
  obtain ⟨sm, hsm⟩ : ∃ sm, sumT (sumN c5 B1) = sm := ⟨_, rfl⟩
  have hbt : blockT ⟨name, mode, uid, gid, size, mtime, typ, link, uname, gname, major, minor, pre⟩ = (c5 ++ sm) ++ B1 := by
    unfold blockT
    rw [EA.out, hB1, hsm]
  have HSUM := Aside0.mk (fun W hGW => show Calls Tryz.prog 32 #[.string (mkS s3)] W fun e w' => e = .returned (.string (mkS sm)) ∧ Below W.heap.size W w' from by
    have := sum_any s3 r10 W hGW
    rw [htk, hdr, hsm] at this
    exact this)
  have r11 : sm.length = 8 := by rw [← hsm, sumT_length]
  rw [hB1] at hlB
  obtain ⟨v1, hv1⟩ : ∃ v1, c5 ++ sm = v1 := ⟨_, rfl⟩
  obtain ⟨v2, hv2⟩ : ∃ v2, v1 ++ B1 = v2 := ⟨_, rfl⟩
  rw [hv1, hv2] at hbt
  have r12 : v1.length = 156 := by rw [← hv1, List.length_append, hlA, r11]
  have k11 := fun W => str_add (P := Tryz.prog) (s := mkS c5) (t := mkS sm) rfl rfl hv1 (by omega) W
  have k12 := fun W => str_add (P := Tryz.prog) (s := mkS v1) (t := mkS B1) rfl rfl hv2 (by rw [← hv2, List.length_append, r12, hlB]; decide) W
  have x1 : (mkS s3).extract 0 148 = mkS c5 := by rw [extract_mkS, List.drop_zero, htk]
  have x2 : (mkS s3).extract 156 512 = mkS B1 := by rw [extract_mkS, hdr, List.take_of_length_le (by omega)]
  have hty : strOfNums [(typ.toNat : Int)] = mkS [typ] := by unfold strOfNums mkS; simp
  have HBT := Aside0.mk hbt
  clear eB hL1 hU1 hG1 hM1 hN1 hP1 hZ8 hZ12 hd1 hd2 hd3 hd4 hd5 hs2 he1 he2 he3 hs3 hall hB1 htk hdr hsm hbt hv1 hv2
  clear hA0 hF1 hF2 hF3 hF4 hF5 hc1 hc2 hc3 hc4 hc5 eA m1 m2 m3 m4 m5 m6 m7 m8 m9 m10 m11 m12 HM
  have HB1 := Aside0.mk (below_next HB0.out hb1)
  have KP := Aside0.mk (fun W (hb : Below w1.heap.size w1 W) => And.intro (show W.cell? ⟨w.heap.size, 0, none⟩ = some (.string (mkS name)) ∧ W.cell? ⟨w.heap.size, 1, none⟩ = some (.int .i64 mode) ∧ W.cell? ⟨w.heap.size, 2, none⟩ = some (.int .i64 uid) ∧ W.cell? ⟨w.heap.size, 3, none⟩ = some (.int .i64 gid) ∧ W.cell? ⟨w.heap.size, 4, none⟩ = some (.int .i64 size) ∧ W.cell? ⟨w.heap.size, 5, none⟩ = some (.int .i64 mtime) ∧ W.cell? ⟨w.heap.size, 6, none⟩ = some (.int .u8 (typ.toNat : Int)) ∧ W.cell? ⟨w.heap.size, 7, none⟩ = some (.string (mkS link)) ∧ W.cell? ⟨w.heap.size, 8, none⟩ = some (.string (mkS uname)) ∧ W.cell? ⟨w.heap.size, 9, none⟩ = some (.string (mkS gname)) ∧ W.cell? ⟨w.heap.size, 10, none⟩ = some (.int .i64 major) ∧ W.cell? ⟨w.heap.size, 11, none⟩ = some (.int .i64 minor) ∧ W.cell? ⟨w.heap.size, 12, none⟩ = some (.string (mkS pre)) from ⟨(hb.cell (p := ⟨_, 0, none⟩) (blk_lt g1)).trans (blk_cell g1 0), (hb.cell (p := ⟨_, 1, none⟩) (blk_lt g1)).trans (blk_cell g1 1), (hb.cell (p := ⟨_, 2, none⟩) (blk_lt g1)).trans (blk_cell g1 2), (hb.cell (p := ⟨_, 3, none⟩) (blk_lt g1)).trans (blk_cell g1 3), (hb.cell (p := ⟨_, 4, none⟩) (blk_lt g1)).trans (blk_cell g1 4), (hb.cell (p := ⟨_, 5, none⟩) (blk_lt g1)).trans (blk_cell g1 5), (hb.cell (p := ⟨_, 6, none⟩) (blk_lt g1)).trans (blk_cell g1 6), (hb.cell (p := ⟨_, 7, none⟩) (blk_lt g1)).trans (blk_cell g1 7), (hb.cell (p := ⟨_, 8, none⟩) (blk_lt g1)).trans (blk_cell g1 8), (hb.cell (p := ⟨_, 9, none⟩) (blk_lt g1)).trans (blk_cell g1 9), (hb.cell (p := ⟨_, 10, none⟩) (blk_lt g1)).trans (blk_cell g1 10), (hb.cell (p := ⟨_, 11, none⟩) (blk_lt g1)).trans (blk_cell g1 11), (hb.cell (p := ⟨_, 12, none⟩) (blk_lt g1)).trans (blk_cell g1 12)⟩) (Aside0.mk hb))
  have HR0 := Aside0.mk (Below.refl w1.heap.size w1)
  clear hb1 g0 g1 HB0
  go_region_held3 (fun W => W.cell? ⟨w.heap.size, 0, none⟩ = some (.string (mkS name)) ∧ W.cell? ⟨w.heap.size, 1, none⟩ = some (.int .i64 mode) ∧ W.cell? ⟨w.heap.size, 2, none⟩ = some (.int .i64 uid) ∧ W.cell? ⟨w.heap.size, 3, none⟩ = some (.int .i64 gid) ∧ W.cell? ⟨w.heap.size, 4, none⟩ = some (.int .i64 size) ∧ W.cell? ⟨w.heap.size, 5, none⟩ = some (.int .i64 mtime) ∧ Aside0 (Below w1.heap.size w1 W))
    (first
      | exact (by obtain ⟨⟨x0, x1, x2, x3, x4, x5, x6, x7, x8, x9, x10, x11, x12⟩, xb⟩ := KP.out _ (below_drew HR0.out); exact ⟨x0, x1, x2, x3, x4, x5, xb⟩)
      | exact (by obtain ⟨⟨x0, x1, x2, x3, x4, x5, x6, x7, x8, x9, x10, x11, x12⟩, xb⟩ := KP.out _ hbq; exact ⟨x0, x1, x2, x3, x4, x5, xb⟩))
    ((go_split_ands
      have hbw := Aside0.out (by assumption : Aside0 (Below w1.heap.size w1 _))
      first
      | (go_at_call 30; refine (HT1.out _).mono ?_; rintro e wp ⟨rfl, hbp⟩; have hbq := below_next hbw hbp; have t1 := True.intro)
      | (go_at_call 31; have hh := t5; refine (HF5.out _).mono ?_; rintro e wp ⟨rfl, hbp⟩; have hbq := below_next hbw hbp)
      | (go_at_call 31; have hh := t4; refine (HF4.out _).mono ?_; rintro e wp ⟨rfl, hbp⟩; have hbq := below_next hbw hbp; have t5 := True.intro)
      | (go_at_call 31; have hh := t3; refine (HF3.out _).mono ?_; rintro e wp ⟨rfl, hbp⟩; have hbq := below_next hbw hbp; have t4 := True.intro)
      | (go_at_call 31; have hh := t2; refine (HF2.out _).mono ?_; rintro e wp ⟨rfl, hbp⟩; have hbq := below_next hbw hbp; have t3 := True.intro)
      | (go_at_call 31; have hh := t1; refine (HF1.out _).mono ?_; rintro e wp ⟨rfl, hbp⟩; have hbq := below_next hbw hbp; have t2 := True.intro)))
  go_wp2_with fail
  have HBa := Aside0.mk (Below.trans HR0.out hbq)
  clear hbq hbp
  rename_i wa _
  have SK : ∀ W, Below w1.heap.size w1 W → W.cell? ⟨w.heap.size, 6, none⟩ = some (.int .u8 (typ.toNat : Int)) ∧ W.cell? ⟨w.heap.size, 7, none⟩ = some (.string (mkS link)) ∧ W.cell? ⟨w.heap.size, 8, none⟩ = some (.string (mkS uname)) ∧ W.cell? ⟨w.heap.size, 9, none⟩ = some (.string (mkS gname)) ∧ Put2 (Below w1.heap.size w1 W) := by
    intro W hW
    obtain ⟨⟨x0, x1, x2, x3, x4, x5, x6, x7, x8, x9, x10, x11, x12⟩, xb⟩ := KP.out _ hW
    exact ⟨x6, x7, x8, x9, ⟨xb.out⟩⟩
  have cv1 := fun W : World => one_byte (W.alloc (.cells #[.int .u8 (typ.toNat : Int)] 5)) W.heap.size typ (heap_alloc_new W _)
  have cv2 := fun W : World => show (convert 40 9 (.slice (some ⟨W.heap.size, 0, none⟩) 1 1)).run Tryz.prog (W.drew.alloc (.cells #[.int .u8 (typ.toNat : Int)] 5)) = _ from one_byte (W.drew.alloc (.cells #[.int .u8 (typ.toNat : Int)] 5)) W.heap.size typ (heap_alloc_new W.drew _)
  have cv4 := fun W : World => show (convert 40 9 (.slice (some ⟨W.heap.size, 0, none⟩) 1 1)).run Tryz.prog (W.alloc (.cells #[.int .u8 (typ.toNat : Int)] 5)).drew = _ from one_byte (W.alloc (.cells #[.int .u8 (typ.toNat : Int)] 5)).drew W.heap.size typ (blk_drew (heap_alloc_new W _))
  have cv3 := fun (W : World) (k : Nat) h => one_byte W k typ h
  go_region_held (fun W => W.cell? ⟨w.heap.size, 6, none⟩ = some (.int .u8 (typ.toNat : Int)) ∧ W.cell? ⟨w.heap.size, 7, none⟩ = some (.string (mkS link)) ∧ W.cell? ⟨w.heap.size, 8, none⟩ = some (.string (mkS uname)) ∧ W.cell? ⟨w.heap.size, 9, none⟩ = some (.string (mkS gname)) ∧ Put2 (Below w1.heap.size w1 W))
    ((refine SK _ ?_
      first
      | with_reducible exact below_drew HBa.out
      | with_reducible exact hbq
      | with_reducible exact below_alloc hbq _
      | with_reducible exact below_alloc (below_drew HBa.out) _
      | with_reducible exact below_drew (below_alloc HBa.out _)
      | with_reducible exact below_drew (below_alloc hbq _)))
    ((go_split_ands
      have hbw := Put2.out (by assumption : Put2 (Below w1.heap.size w1 _))
      first
      | (go_at_call 30; have hh := u3; refine (HT4.out _).mono ?_; rintro e wp ⟨rfl, hbp⟩; have hbq := below_next hbw hbp; (first | (have hbk := (hbp.block _ (blk_lt hbk)).trans hbk) | (have hbk := by with_reducible exact (hbp.block _ (blk_lt (blk_drew (heap_alloc_new _ _)))).trans (blk_drew (heap_alloc_new _ _))) | (have hbk := by with_reducible exact (hbp.block _ (blk_lt (heap_alloc_new _ _))).trans (heap_alloc_new _ _)) | skip))
      | (go_at_call 30; have hh := u2; refine (HT3.out _).mono ?_; rintro e wp ⟨rfl, hbp⟩; have hbq := below_next hbw hbp; (first | (have hbk := (hbp.block _ (blk_lt hbk)).trans hbk) | (have hbk := by with_reducible exact (hbp.block _ (blk_lt (blk_drew (heap_alloc_new _ _)))).trans (blk_drew (heap_alloc_new _ _))) | (have hbk := by with_reducible exact (hbp.block _ (blk_lt (heap_alloc_new _ _))).trans (heap_alloc_new _ _)) | skip); have u3 := True.intro)
      | (go_at_call 30; have hh := u1; refine (HT2.out _).mono ?_; rintro e wp ⟨rfl, hbp⟩; have hbq := below_next hbw hbp; (first | (have hbk := (hbp.block _ (blk_lt hbk)).trans hbk) | (have hbk := by with_reducible exact (hbp.block _ (blk_lt (blk_drew (heap_alloc_new _ _)))).trans (blk_drew (heap_alloc_new _ _))) | (have hbk := by with_reducible exact (hbp.block _ (blk_lt (heap_alloc_new _ _))).trans (heap_alloc_new _ _)) | skip); have u2 := True.intro)
      | (go_at_call 30; refine (HT0.out _).mono ?_; rintro e wp ⟨rfl, hbp⟩; have hbq := below_next hbw hbp; (first | (have hbk := (hbp.block _ (blk_lt hbk)).trans hbk) | (have hbk := by with_reducible exact (hbp.block _ (blk_lt (blk_drew (heap_alloc_new _ _)))).trans (blk_drew (heap_alloc_new _ _))) | (have hbk := by with_reducible exact (hbp.block _ (blk_lt (heap_alloc_new _ _))).trans (heap_alloc_new _ _)) | skip); have u1 := True.intro)))
  all_goals (rename_i hlast; have HBb := Aside0.mk hlast.2.2.2.2.out)
  all_goals (try clear hbq)
  all_goals (try clear hbp)
  all_goals (try clear hbk)
  all_goals clear cv1 cv2 cv3 cv4 SK
  all_goals
    go_wp2_with fail
    have SK3 : ∀ W, Below w1.heap.size w1 W → W.cell? ⟨w.heap.size, 10, none⟩ = some (.int .i64 major) ∧ W.cell? ⟨w.heap.size, 11, none⟩ = some (.int .i64 minor) ∧ W.cell? ⟨w.heap.size, 12, none⟩ = some (.string (mkS pre)) ∧ Put3 (Below w1.heap.size w1 W) := by
      intro W hW
      obtain ⟨⟨x0, x1, x2, x3, x4, x5, x6, x7, x8, x9, x10, x11, x12⟩, xb⟩ := KP.out _ hW
      exact ⟨x10, x11, x12, ⟨xb.out⟩⟩
    go_region_held3 (fun W => W.cell? ⟨w.heap.size, 10, none⟩ = some (.int .i64 major) ∧ W.cell? ⟨w.heap.size, 11, none⟩ = some (.int .i64 minor) ∧ W.cell? ⟨w.heap.size, 12, none⟩ = some (.string (mkS pre)) ∧ Put3 (Below w1.heap.size w1 W))
      ((refine SK3 _ ?_
        first
        | with_reducible exact below_drew HBb.out
        | with_reducible exact hbq))
      ((go_split_ands
        have hbw := Put3.out (by assumption : Put3 (Below w1.heap.size w1 _))
        first
        | (go_at_call 30; have hh := y3; refine (HT6.out _).mono ?_; rintro e wp ⟨rfl, hbp⟩; have hbq := below_next hbw hbp)
        | (go_at_call 30; have hh := y2; refine (HT5.out _).mono ?_; rintro e wp ⟨rfl, hbp⟩; have hbq := below_next hbw hbp; have y3 := True.intro)
        | (go_at_call 31; have hh := y1; refine (HF7.out _).mono ?_; rintro e wp ⟨rfl, hbp⟩; have hbq := below_next hbw hbp; have y2 := True.intro)
        | (go_at_call 31; refine (HF6.out _).mono ?_; rintro e wp ⟨rfl, hbp⟩; have hbq := below_next hbw hbp; have y1 := True.intro)))
    clear SK3
    have HBc := Aside0.mk hbq
    clear hbq hbp
    go_wp2_with fail
    go_region_held3 (fun W => Put4 (Below w1.heap.size w1 W))
      ((refine Put4.mk ?_
        first
        | with_reducible exact below_drew HBc.out
        | with_reducible exact hbq))
      ((go_split_ands
        have hbw := Put4.out (by assumption : Put4 (Below w1.heap.size w1 _))
        go_at_call 32; refine (HSUM.out _ (HG.out.below (below_next HB1.out hbw))).mono ?_; rintro e wp ⟨rfl, hbp⟩; have hbq := below_next hbw hbp))
    have HBd := Aside0.mk hbq
    clear hbq hbp
    go_wp2_with fail
    go_ret
    exact ⟨by rw [HBT.out]; rfl, below_next HB1.out HBd.out⟩
end Go.Proofs.YtpmiddhdgidimaaGreatDoor
