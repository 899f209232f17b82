/- HeadBack: the walk. -/
import Derived.Test.YtpmiddhdgidimaaDoorHeadAwake
import Derived.Test.YtpmiddhdgidimaaDoorHeadLawMake
import Derived.Test.YtpmiddhdgidimaaDoorHeadEq
import Derived.Laws.BitsAllLaws
set_option linter.unusedVariables false
set_option linter.unusedSimpArgs false
namespace Go.Proofs.YtpmiddhdgidimaaDoor
open Go.RowKit Go.Proofs.YtpmiddhdgidimaaDoorW.PrintWords

theorem may_is (h : Hd) (b : Bool) (hb : mayH h = b) (w : World) (hG : Good w) (hf : Fits h) : Calls Tryd.prog 13 #[.agg (hdCells h)] w fun e w' => e = .returned (.bool b) ∧ Below w.heap.size w w' := by
  subst hb; exact may_any h w hG hf
theorem make_fits (a b : List UInt8) (k : Nat → Int) (t : UInt8) (h : Nums k) : Fits (makeT a b k t) := by
  refine ⟨make_ints a b k t h, ?_, ?_, ?_, ?_, ?_⟩ <;> unfold makeT <;> simp only
  · have := textM_length a 100; omega
  · have := textM_length b 100; omega
  · have := textM_length a 32; omega
  · simp
  · have := textM_length b 155; omega
set_option maxHeartbeats 4000000 in
set_option maxRecDepth 100000 in
theorem headBack_far (a b : List UInt8) (A : Option Addr) (len cap : Nat) (t : UInt8) (at_ : Int) (by_ : UInt8) (behind : List UInt8) (w : World) (hG : Good w) (hg : 300 < a.length ∨ 300 < b.length ∨ 100 < behind.length) :
    Calls Tryd.prog 3 #[.string (mkS a), .string (mkS b), .slice A len cap, .int .u8 (t.toNat : Int), .int .u16 at_, .int .u8 (by_.toNat : Int), .string (mkS behind)] w fun e w' => e = .returned (.bool true) ∧ Below w.heap.size w w' := by
  have HG := Aside0.mk hG
  clear hG
  have hq : (300 : Int) < a.length ∨ (¬ (300 : Int) < a.length ∧ (300 : Int) < b.length) ∨ (¬ (300 : Int) < a.length ∧ ¬ (300 : Int) < b.length ∧ (100 : Int) < behind.length) := by omega
  clear hg
  rcases hq with q1 | ⟨q1, q2⟩ | ⟨q1, q2, q3⟩
  all_goals
    go_enter Tryd.func3, Tryd.ntmps3
    go_wp2_with (go_at_call 8; refine (awake_any _ HG.out).mono ?_; rintro e w1 ⟨rfl, hb1⟩)
    go_ret
    exact ⟨rfl, hb1⟩
set_option maxHeartbeats 4000000 in
set_option maxRecDepth 100000 in
theorem headBack_main (a b : List UInt8) (A : Option Addr) (len cap : Nat) (zs : List Int) (t : UInt8) (at_ : Nat) (by_ : UInt8) (behind : List UInt8) (w : World) (hG : Good w) (hN : NumsAt w A len zs) (h1 : a.length ≤ 300) (h2 : b.length ≤ 300) (h3 : behind.length ≤ 100) (hat : at_ ≤ 65535) :
    Calls Tryd.prog 3 #[.string (mkS a), .string (mkS b), .slice A len cap, .int .u8 (t.toNat : Int), .int .u16 (at_ : Int), .int .u8 (by_.toNat : Int), .string (mkS behind)] w fun e w' => e = .returned (.bool true) ∧ Below w.heap.size w w' := by
  have q1 : ¬ (300 : Int) < a.length := by omega
  have q2 : ¬ (300 : Int) < b.length := by omega
  have q3 : ¬ (100 : Int) < behind.length := by omega
  have HG := Aside0.mk hG
  have HN := Aside0.mk hN
  have hnu := numK_nums hN
  have HMK := Aside0.mk (make_any a b A len cap zs t w hN (by omega) (by omega))
  obtain ⟨H, hH⟩ : ∃ H, makeT a b (numK len zs) t = H := ⟨_, rfl⟩
  have m : MayH H := hH ▸ make_may a b _ t hnu
  have ii : Ints H := hH ▸ make_ints a b _ t hnu
  have ff : Fits H := hH ▸ make_fits a b _ t hnu
  rw [hH] at HMK
  clear hH hnu hG hN
  obtain ⟨B, hB⟩ : ∃ B, blockT H = B := ⟨_, rfl⟩
  have hBl : B.length = 512 := by rw [← hB]; exact blockT_length m
  have HPUT := Aside0.mk (fun W hGW => put_is H B (by rw [put_of m, hB]) W hGW ff)
  have HGET1 := Aside0.mk (fun W hGW => get_is (B ++ behind) (.ok H) (by rw [← hB]; exact get_back m ii behind) (by rw [List.length_append, hBl]; omega) W hGW)
  have HGET2 := Aside0.mk (fun W hGW => get_is (B.take 511) (.error 5) (get_short _ (by rw [List.length_take]; omega)) (by rw [List.length_take]; omega) W hGW)
  have HMAY := Aside0.mk (fun W hGW => may_is H true ((mayH_iff H).2 m) W hGW ff)
  have HE0 := Aside0.mk (fun W => err_any 0 (by decide) W)
  have HE5 := Aside0.mk (fun W => err_any 5 (by decide) W)
  have hadd := fun W => str_add (P := Tryd.prog) (s := mkS B) (t := mkS behind) (a := B) (b := behind) rfl rfl rfl (by rw [List.length_append, hBl]; omega) W
  have x1 : (mkS B).extract 0 511 = mkS (B.take 511) := by rw [extract_mkS, List.drop_zero, Nat.sub_zero]
  have hBl' : (B.length : Int) = 512 := by omega
  have HTURN := Aside0.mk (fun (q : Nat) (v : UInt8) (hq : q < 512) (hv : v ≠ B.getD q 0) => show getT (B.set q v) = .error 4 from by rw [← hB] at hv ⊢; exact get_turned m q v hq hv)
  have HE := Aside0.mk (fun d W => eqHd_same d W H)
  obtain ⟨n0, n1, n2, n3, n4, n5, n6, n7, n8, n9, n10, n11, n12⟩ := H
  simp only [hdCells, gotH, hd0] at HMK HPUT HGET1 HGET2 HMAY HE
  go_enter Tryd.func3, Tryd.ntmps3
  go_wp2_with fail
  refine HMK.out.mono ?_
  rintro e w1 ⟨rfl, hb1⟩
  have B1 := Aside0.mk hb1
  clear hb1 HMK
  go_wp2_with fail
  have G1 := Aside0.mk (heap_alloc_new w1 (.cells #[.string (mkS n0), .int .i64 n1, .int .i64 n2, .int .i64 n3, .int .i64 n4, .int .i64 n5, .int .u8 (n6.toNat : Int), .string (mkS n7), .string (mkS n8), .string (mkS n9), .int .i64 n10, .int .i64 n11, .string (mkS n12)] 26))
  have B2 := Aside0.mk (below_alloc B1.out (.cells #[.string (mkS n0), .int .i64 n1, .int .i64 n2, .int .i64 n3, .int .i64 n4, .int .i64 n5, .int .u8 (n6.toNat : Int), .string (mkS n7), .string (mkS n8), .string (mkS n9), .int .i64 n10, .int .i64 n11, .string (mkS n12)] 26))
  refine (HPUT.out _ (HG.out.below B2.out)).mono ?_
  rintro e w2 ⟨rfl, hb2⟩
  have G2 := Aside0.mk ((hb2.block _ (blk_lt G1.out)).trans G1.out)
  have B3 := Aside0.mk (below_next B2.out hb2)
  generalize w1.heap.size = p1 at G2 ⊢
  clear hb2 G1 B1 B2 HPUT
  go_wp2_with fail
  refine (HGET1.out _ (HG.out.below B3.out)).mono ?_
  rintro e w3 ⟨rfl, hb3⟩
  have G3 := Aside0.mk ((hb3.block _ (blk_lt G2.out)).trans G2.out)
  have B4 := Aside0.mk (below_next B3.out hb3)
  clear hb3 G2 B3 HGET1
  go_wp2_with fail
  rw [show (mkS B).extract 0 (min (512 : Int) 511).toNat = mkS (B.take 511) from x1]
  have X4 := Aside0.mk (heap_alloc_new w3 (.cells #[.string (mkS n0), .int .i64 n1, .int .i64 n2, .int .i64 n3, .int .i64 n4, .int .i64 n5, .int .u8 (n6.toNat : Int), .string (mkS n7), .string (mkS n8), .string (mkS n9), .int .i64 n10, .int .i64 n11, .string (mkS n12)] 26))
  have G4 := Aside0.mk (blk_alloc G3.out (.cells #[.string (mkS n0), .int .i64 n1, .int .i64 n2, .int .i64 n3, .int .i64 n4, .int .i64 n5, .int .u8 (n6.toNat : Int), .string (mkS n7), .string (mkS n8), .string (mkS n9), .int .i64 n10, .int .i64 n11, .string (mkS n12)] 26))
  have B5 := Aside0.mk (below_alloc B4.out (.cells #[.string (mkS n0), .int .i64 n1, .int .i64 n2, .int .i64 n3, .int .i64 n4, .int .i64 n5, .int .u8 (n6.toNat : Int), .string (mkS n7), .string (mkS n8), .string (mkS n9), .int .i64 n10, .int .i64 n11, .string (mkS n12)] 26))
  refine (HGET2.out _ (HG.out.below B5.out)).mono ?_
  rintro e w4 ⟨rfl, hb4⟩
  have G5 := Aside0.mk ((hb4.block _ (blk_lt G4.out)).trans G4.out)
  have X5 := Aside0.mk ((hb4.block _ (blk_lt X4.out)).trans X4.out)
  have B6 := Aside0.mk (below_next B5.out hb4)
  generalize w3.heap.size = p3 at X5 ⊢
  clear hb4 G3 G4 X4 B4 B5 HGET2 x1
  have c0 : w4.cell? ⟨p1, 0, none⟩ = some (.string (mkS n0)) := blk_cell G5.out 0
  have x0 : w4.cell? ⟨p3, 0, none⟩ = some (.string (mkS n0)) := blk_cell X5.out 0
  have c1 : w4.cell? ⟨p1, 1, none⟩ = some (.int .i64 n1) := blk_cell G5.out 1
  have x1 : w4.cell? ⟨p3, 1, none⟩ = some (.int .i64 n1) := blk_cell X5.out 1
  have c2 : w4.cell? ⟨p1, 2, none⟩ = some (.int .i64 n2) := blk_cell G5.out 2
  have x2 : w4.cell? ⟨p3, 2, none⟩ = some (.int .i64 n2) := blk_cell X5.out 2
  have c3 : w4.cell? ⟨p1, 3, none⟩ = some (.int .i64 n3) := blk_cell G5.out 3
  have x3 : w4.cell? ⟨p3, 3, none⟩ = some (.int .i64 n3) := blk_cell X5.out 3
  have c4 : w4.cell? ⟨p1, 4, none⟩ = some (.int .i64 n4) := blk_cell G5.out 4
  have x4 : w4.cell? ⟨p3, 4, none⟩ = some (.int .i64 n4) := blk_cell X5.out 4
  have c5 : w4.cell? ⟨p1, 5, none⟩ = some (.int .i64 n5) := blk_cell G5.out 5
  have x5 : w4.cell? ⟨p3, 5, none⟩ = some (.int .i64 n5) := blk_cell X5.out 5
  have c6 : w4.cell? ⟨p1, 6, none⟩ = some (.int .u8 (n6.toNat : Int)) := blk_cell G5.out 6
  have x6 : w4.cell? ⟨p3, 6, none⟩ = some (.int .u8 (n6.toNat : Int)) := blk_cell X5.out 6
  have c7 : w4.cell? ⟨p1, 7, none⟩ = some (.string (mkS n7)) := blk_cell G5.out 7
  have x7 : w4.cell? ⟨p3, 7, none⟩ = some (.string (mkS n7)) := blk_cell X5.out 7
  have c8 : w4.cell? ⟨p1, 8, none⟩ = some (.string (mkS n8)) := blk_cell G5.out 8
  have x8 : w4.cell? ⟨p3, 8, none⟩ = some (.string (mkS n8)) := blk_cell X5.out 8
  have c9 : w4.cell? ⟨p1, 9, none⟩ = some (.string (mkS n9)) := blk_cell G5.out 9
  have x9 : w4.cell? ⟨p3, 9, none⟩ = some (.string (mkS n9)) := blk_cell X5.out 9
  have c10 : w4.cell? ⟨p1, 10, none⟩ = some (.int .i64 n10) := blk_cell G5.out 10
  have x10 : w4.cell? ⟨p3, 10, none⟩ = some (.int .i64 n10) := blk_cell X5.out 10
  have c11 : w4.cell? ⟨p1, 11, none⟩ = some (.int .i64 n11) := blk_cell G5.out 11
  have x11 : w4.cell? ⟨p3, 11, none⟩ = some (.int .i64 n11) := blk_cell X5.out 11
  have c12 : w4.cell? ⟨p1, 12, none⟩ = some (.string (mkS n12)) := blk_cell G5.out 12
  have x12 : w4.cell? ⟨p3, 12, none⟩ = some (.string (mkS n12)) := blk_cell X5.out 12
  have lg := blk_lt G5.out
  have lx := blk_lt X5.out
  have heq := HE.out
  go_wp2_with fail
  refine (HE0.out _).mono ?_
  rintro e u ⟨rfl, hu⟩
  rw [hu]
  clear hu
  go_wp2_with fail
  refine (HE5.out _).mono ?_
  rintro e u ⟨rfl, hu⟩
  rw [hu]
  clear hu
  go_wp2_with fail
  have B7 := Aside0.mk (below_alloc B6.out (.cells #[.string (mkS []), .int .i64 0, .int .i64 0, .int .i64 0, .int .i64 0, .int .i64 0, .int .u8 0, .string (mkS []), .string (mkS []), .string (mkS []), .int .i64 0, .int .i64 0, .string (mkS [])] 26))
  refine (HMAY.out _ (HG.out.below B7.out)).mono ?_
  rintro e w6 ⟨rfl, hb6⟩
  have B8 := Aside0.mk (below_next B7.out hb6)
  clear hb6 heq HE B6 B7 c0 x0 c1 x1 c2 x2 c3 x3 c4 x4 c5 x5 c6 x6 c7 x7 c8 x8 c9 x9 c10 x10 c11 x11 c12 x12
  obtain ⟨w7, cap7, hcv, hb7, hz7, hB7⟩ := conv_world (P := Tryd.prog) w6 9 34 5 (mkS B) Tryd.underlying9 Tryd.underlying34 Tryd.underlying5
  rw [data_mkS] at hB7
  rw [size_mkS, hBl] at hcv
  obtain ⟨q, hq⟩ : ∃ q : Nat, at_ % 512 = q := ⟨_, rfl⟩
  have hq5 : q < 512 := by omega
  have hq5' : (q : Int) < 512 := by omega
  have hqe : (at_ : Int) % 512 = q := by omega
  have hqt : Int.tmod (at_ : Int) 512 = q := by rw [Int.tmod_eq_emod_of_nonneg (by omega)]; exact hqe
  have hqs : q < B.length := by omega
  have hci := hB7.cell _ hqs
  have hfi := hB7.free _ hqs
  have hx : B.getD q 0 = B[q] := by simp [List.getD_eq_getElem?_getD, hqs]
  rw [hx] at hci
  have hB8 := hB7.set _ hqs (B[q] ^^^ by_)
  have hxr : (((B[q] ^^^ by_).toNat : Nat) : Int) = Go.bits .xor .u8 (B[q].toNat : Int) (by_.toNat : Int) := by
    rw [u8_xor_nat _ _ B[q].toNat_lt by_.toNat_lt, UInt8.toNat_xor]
  rw [hxr] at hB8
  obtain ⟨T, hT⟩ : ∃ T, B.set q (B[q] ^^^ by_) = T := ⟨_, rfl⟩
  rw [hT] at hB8
  have htl : T.length = 512 := by rw [← hT, List.length_set, hBl]
  have hway : (by_ = 0 ∧ T = B) ∨ (¬ by_ = 0 ∧ getT T = .error 4) := by
    by_cases h0 : by_ = 0
    · left
      refine ⟨h0, ?_⟩
      rw [← hT, h0]; simp
    · right
      refine ⟨h0, ?_⟩
      rw [← hT]
      apply HTURN.out q _ hq5
      rw [hx]
      intro e
      apply h0
      have h2 : B[q] ^^^ (B[q] ^^^ by_) = B[q] ^^^ B[q] := by rw [e]
      rw [← UInt8.xor_assoc, UInt8.xor_self, UInt8.zero_xor] at h2
      exact h2
  have hbk := hB8.back (P := Tryd.prog) 34 9 5 cap7 512 htl.symm Tryd.underlying34 Tryd.underlying5 Tryd.underlying9
  have B9 := Aside0.mk (below_next B8.out (hb7.setCell (p := ⟨w6.heap.size, q, none⟩) (Nat.le_refl _) (.int .u8 (Go.bits .xor .u8 (B[q].toNat : Int) (by_.toNat : Int)))))
  clear hB7 hB8 hx hxr hT hb7
  generalize B[q] = bq at *
  rcases hway with ⟨h0, hTB⟩ | ⟨h0, hTT⟩
  · have e0 : ((by_.toNat : Int) == 0) = true := by rw [h0]; rfl
    have HGT := Aside0.mk (fun W hGW => get_any T (by omega) W hGW)
    obtain ⟨hx, n, hgx⟩ : ∃ (hx : Hd) (n : Int), gotH (getT T) = .tuple #[.agg (hdCells hx), .int .i64 n] := by
      cases getT T with
      | ok h => exact ⟨h, 0, rfl⟩
      | error n => exact ⟨hd0, n, rfl⟩
    rw [hgx] at HGT
    obtain ⟨m0, m1, m2, m3, m4, m5, m6, m7, m8, m9, m10, m11, m12⟩ := hx
    simp only [hdCells] at HGT
    clear h0 hTB hgx
    go_wp2_with fail
    refine (HGT.out _ (HG.out.below B9.out)).mono ?_
    rintro e w8 ⟨rfl, hb8⟩
    have B10 := Aside0.mk (below_next B9.out hb8)
    clear hb8
    go_wp2_with fail
    refine (awake_any _ (HG.out.below (below_alloc B10.out _))).mono ?_
    rintro e w9 ⟨rfl, hb9⟩
    have B11 := Aside0.mk (below_next (below_alloc B10.out _) hb9)
    clear hb9
    go_wp2
    go_ret
    exact ⟨rfl, B11.out⟩
  · have hby : by_.toNat ≠ 0 := fun h => h0 (UInt8.toNat_inj.1 h)
    have e0 : ((by_.toNat : Int) == 0) = false := by rw [beq_eq_false_iff_ne]; omega
    have HGT := Aside0.mk (fun W hGW => get_is T (.error 4) hTT (by omega) W hGW)
    have HE4 := Aside0.mk (fun W => err_any 4 (by decide) W)
    simp only [gotH, hdCells, hd0] at HGT
    clear h0 hTT hby
    go_wp2_with fail
    refine (HGT.out _ (HG.out.below B9.out)).mono ?_
    rintro e w8 ⟨rfl, hb8⟩
    have B10 := Aside0.mk (below_next B9.out hb8)
    clear hb8
    go_wp2_with fail
    refine (HE4.out _).mono ?_
    rintro e u ⟨rfl, hu⟩
    rw [hu]
    clear hu
    go_wp2_with fail
    refine (awake_any _ (HG.out.below (below_alloc B10.out _))).mono ?_
    rintro e w9 ⟨rfl, hb9⟩
    have B11 := Aside0.mk (below_next (below_alloc B10.out _) hb9)
    clear hb9
    go_wp2
    go_ret
    exact ⟨rfl, B11.out⟩
theorem nums_of_row {w : World} {a : Option Addr} {len cap : Nat} {zs : List Int}
    (h : (a = none ∧ len = 0 ∧ cap = 0 ∧ zs = []) ∨ ∃ x, a = some x ∧ len ≤ cap ∧ cap ≤ maxLen ∧ zs.length = cap ∧ (∀ i, i < zs.length → w.cell? (x.add i) = some (.int .u32 (zs.getD i 0))) ∧ ∀ n ∈ zs, (Lit.int .u32 n).wf = true)
    (hy : len * 4 ≤ 140737488351232) : NumsAt w a len zs := by
  refine ⟨by omega, fun i hi => ?_⟩
  rcases h with ⟨_, rfl, _, _⟩ | ⟨x, rfl, h1, h2, h3, h4, h5⟩
  · omega
  · have hc := h4 i (by omega)
    have hm : zs.getD i 0 ∈ zs := by
      rw [List.getD_eq_getElem?_getD, List.getElem?_eq_getElem (by omega)]
      exact List.getElem_mem _
    have hb := World.block_lt_of_cell? w _ hc
    rw [add_block] at hb
    exact ⟨x, rfl, hb, hc, wf_u32 (h5 _ hm)⟩
theorem headBack_walk (a b : ByteArray) (A : Option Addr) (len cap : Nat) (zs : List Int) (t at_ by_ : Int) (behind : ByteArray) (w : World) (hG : Good w) (ha : a.size ≤ 140737488351232) (hb : b.size ≤ 140737488351232)
    (hz : (A = none ∧ len = 0 ∧ cap = 0 ∧ zs = []) ∨ ∃ x, A = some x ∧ len ≤ cap ∧ cap ≤ maxLen ∧ zs.length = cap ∧ (∀ i, i < zs.length → w.cell? (x.add i) = some (.int .u32 (zs.getD i 0))) ∧ ∀ n ∈ zs, (Lit.int .u32 n).wf = true)
    (hy : len * 4 ≤ 140737488351232) (ht : 0 ≤ t ∧ t ≤ 255) (hat : 0 ≤ at_ ∧ at_ ≤ 65535) (hby : 0 ≤ by_ ∧ by_ ≤ 255) (hc : behind.size ≤ 140737488351232) :
    Calls Tryd.prog 3 #[.string a, .string b, .slice A len cap, .int .u8 t, .int .u16 at_, .int .u8 by_, .string behind] w fun e w' => e = .returned (.bool true) ∧ Below w.heap.size w w' := by
  obtain ⟨a, rfl⟩ := exists_mkS a
  obtain ⟨b, rfl⟩ := exists_mkS b
  obtain ⟨behind, rfl⟩ := exists_mkS behind
  obtain ⟨tt, rfl⟩ : ∃ x : UInt8, (x.toNat : Int) = t := ⟨UInt8.ofNat t.toNat, by simp; omega⟩
  obtain ⟨bb, rfl⟩ : ∃ x : UInt8, (x.toNat : Int) = by_ := ⟨UInt8.ofNat by_.toNat, by simp; omega⟩
  obtain ⟨n, rfl⟩ : ∃ n : Nat, (n : Int) = at_ := ⟨at_.toNat, by omega⟩
  by_cases h : 300 < a.length ∨ 300 < b.length ∨ 100 < behind.length
  · exact headBack_far a b A len cap tt _ bb behind w hG h
  · exact headBack_main a b A len cap zs tt n bb behind w hG (nums_of_row hz hy) (by omega) (by omega) (by omega) (by omega)
end Go.Proofs.YtpmiddhdgidimaaDoor
