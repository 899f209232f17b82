/- HeadRefuses: the walk. (Printed by tools/genhrefuses.py.) -/
import Derived.Test.YtpmiddhdgidimaaDoorHeadBack
set_option linter.unusedVariables false
set_option linter.unusedSimpArgs false
namespace Go.Proofs.YtpmiddhdgidimaaDoor
open Go.RowKit Go.Proofs.YtpmiddhdgidimaaDoorW.PrintWords

theorem textsOk_bad {h : Hd} (hb : textOk h.name 100 = false ∨ textOk h.link 100 = false ∨ textOk h.uname 32 = false ∨ textOk h.gname 32 = false ∨ textOk h.pre 155 = false) : mayH h = false := by
  apply mayH_no_text
  unfold textsOk
  rcases hb with h | h | h | h | h <;> rw [h] <;> simp
theorem size_bad {h : Hd} (hb : h.size < 0) : mayH h = false := by
  rw [mayH_parts, show decide (0 ≤ h.size) = false by simp; omega, Bool.and_false, Bool.and_false]
theorem long_add (m n k : Nat) (hk : m + n = k) (hb : k ≤ 1000) (W : World) : (Op.stringOp .add (mkS (List.replicate m 120)) (mkS (List.replicate n 120))).run Tryd.prog W = .ok (.string (mkS (List.replicate k 120))) W :=
  str_add (P := Tryd.prog) (a := List.replicate m 120) (b := List.replicate n 120) rfl rfl (by rw [List.replicate_append_replicate, hk]) (by rw [List.length_replicate]; omega) W
set_option maxHeartbeats 4000000 in
set_option maxRecDepth 100000 in
theorem headRefuses_far (a b : List UInt8) (A : Option Addr) (len cap : Nat) (t : UInt8) (wh : Int) (w : World) (hG : Good w) (hg : 300 < a.length ∨ 300 < b.length) :
    Calls Tryd.prog 4 #[.string (mkS a), .string (mkS b), .slice A len cap, .int .u8 (t.toNat : Int), .int .u8 wh] w fun e w' => e = .returned (.bool true) ∧ Below w.heap.size w w' := by
  have HG := Aside0.mk hG
  clear hG
  have hq : (300 : Int) < a.length ∨ (¬ (300 : Int) < a.length ∧ (300 : Int) < b.length) := by omega
  clear hg
  rcases hq with q1 | ⟨q1, q2⟩
  all_goals
    go_enter Tryd.func4, Tryd.ntmps4
    go_wp2_with (go_at_call 8; refine (awake_any _ HG.out).mono ?_; rintro e w1 ⟨rfl, hb1⟩)
    go_ret
    exact ⟨rfl, hb1⟩
set_option maxHeartbeats 8000000 in
set_option maxRecDepth 100000 in
theorem headRefuses_main (a b : List UInt8) (A : Option Addr) (len cap : Nat) (zs : List Int) (t : UInt8) (wh : Nat) (w : World) (hG : Good w) (hN : NumsAt w A len zs) (h1 : a.length ≤ 300) (h2 : b.length ≤ 300) (hwh : wh ≤ 255) :
    Calls Tryd.prog 4 #[.string (mkS a), .string (mkS b), .slice A len cap, .int .u8 (t.toNat : Int), .int .u8 (wh : Int)] w fun e w' => e = .returned (.bool true) ∧ Below w.heap.size w w' := by
  have q1 : ¬ (300 : Int) < a.length := by omega
  have q2 : ¬ (300 : Int) < b.length := by omega
  have HG := Aside0.mk hG
  have hnu := numK_nums hN
  have HMK := Aside0.mk (make_any a b A len cap zs t w hN (by omega) (by omega))
  obtain ⟨H, hH⟩ : ∃ H, makeT a b (numK len zs) t = H := ⟨_, rfl⟩
  have ff : Fits H := hH ▸ make_fits a b _ t hnu
  rw [hH] at HMK
  clear hH hnu hG hN
  obtain ⟨n0, n1, n2, n3, n4, n5, n6, n7, n8, n9, n10, n11, n12⟩ := H
  simp only [hdCells] at HMK
  have FF := Aside0.mk ff
  clear ff
  obtain ⟨r, hr⟩ : ∃ r : Nat, wh % 9 = r := ⟨_, rfl⟩
  have hre : (wh : Int) % 9 = r := by omega
  have hrt : Int.tmod (wh : Int) 9 = r := by rw [Int.tmod_eq_emod_of_nonneg (by omega)]; exact hre
  have hr9 : r = 0 ∨ r = 1 ∨ r = 2 ∨ r = 3 ∨ r = 4 ∨ r = 5 ∨ r = 6 ∨ r = 7 ∨ r = 8 := by omega
  have K : (⟨#[120, 120, 120, 120, 120, 120, 120, 120, 120, 120, 120, 120, 120, 120, 120, 120, 120, 120, 120, 120, 120, 120, 120, 120, 120, 120, 120, 120, 120, 120, 120, 120, 120]⟩ : ByteArray) = mkS (List.replicate 33 120) := rfl
  have e0 : mkS [] ++ (⟨#[120, 120, 120, 120, 120, 120, 120, 120, 120, 120, 120, 120, 120, 120, 120, 120, 120, 120, 120, 120, 120, 120, 120, 120, 120, 120, 120, 120, 120, 120, 120, 120, 120]⟩ : ByteArray) = mkS (List.replicate 33 120) := by rw [K, append_mkS]; rfl
  have e1 : mkS (List.replicate 33 120) ++ mkS (List.replicate 33 120) = mkS (List.replicate 66 120) := by rw [append_mkS, List.replicate_append_replicate]
  have e2 : mkS (List.replicate 66 120) ++ mkS (List.replicate 33 120) = mkS (List.replicate 99 120) := by rw [append_mkS, List.replicate_append_replicate]
  have e3 : mkS (List.replicate 99 120) ++ mkS (List.replicate 33 120) = mkS (List.replicate 132 120) := by rw [append_mkS, List.replicate_append_replicate]
  have e4 : mkS (List.replicate 132 120) ++ mkS (List.replicate 33 120) = mkS (List.replicate 165 120) := by rw [append_mkS, List.replicate_append_replicate]
  obtain ⟨L33, h33⟩ : ∃ L, List.replicate 33 (120 : UInt8) = L := ⟨_, rfl⟩
  obtain ⟨L66, h66⟩ : ∃ L, List.replicate 66 (120 : UInt8) = L := ⟨_, rfl⟩
  obtain ⟨L99, h99⟩ : ∃ L, List.replicate 99 (120 : UInt8) = L := ⟨_, rfl⟩
  obtain ⟨L132, h132⟩ : ∃ L, List.replicate 132 (120 : UInt8) = L := ⟨_, rfl⟩
  obtain ⟨L165, h165⟩ : ∃ L, List.replicate 165 (120 : UInt8) = L := ⟨_, rfl⟩
  rw [h33] at e0 e1 e2 e3 e4
  rw [h66] at e1 e2
  rw [h99] at e2 e3
  rw [h132] at e3 e4
  rw [h165] at e4
  have k33 : L33.length = 33 := by rw [← h33, List.length_replicate]
  have k66 : L66.length = 66 := by rw [← h66, List.length_replicate]
  have k99 : L99.length = 99 := by rw [← h99, List.length_replicate]
  have k132 : L132.length = 132 := by rw [← h132, List.length_replicate]
  have k165 : L165.length = 165 := by rw [← h165, List.length_replicate]
  have T33 : textOk L33 32 = false := by unfold textOk; rw [k33]; rfl
  have T132 : textOk L132 100 = false := by unfold textOk; rw [k132]; rfl
  have T165 : textOk L165 155 = false := by unfold textOk; rw [k165]; rfl
  have T2 : textOk [97, 0] 100 = false := by decide
  have T0 : textOk [0] 32 = false := by decide
  clear K h33 h66 h99 h132 h165
  clear hr
  rcases hr9 with rfl | rfl | rfl | rfl | rfl | rfl | rfl | rfl | rfl
  · have HB := Aside0.mk (show mayH ⟨L132, n1, n2, n3, n4, n5, n6, n7, n8, n9, n10, n11, n12⟩ = false from textsOk_bad (.inl T132))
    have HF : Aside0 (Fits ⟨L132, n1, n2, n3, n4, n5, n6, n7, n8, n9, n10, n11, n12⟩) := ⟨by have f := FF.out; exact ⟨⟨f.ints.mode, f.ints.uid, f.ints.gid, f.ints.size, f.ints.mtime, f.ints.major, f.ints.minor⟩, (by simp only [k33, k132, k165, List.length_cons, List.length_nil]; decide), f.link, f.uname, f.gname, f.pre⟩⟩
    have HMAY := Aside0.mk (fun W hGW => may_is ⟨L132, n1, n2, n3, n4, n5, n6, n7, n8, n9, n10, n11, n12⟩ false HB.out W hGW HF.out)
    have HPUT := Aside0.mk (fun W hGW => put_is ⟨L132, n1, n2, n3, n4, n5, n6, n7, n8, n9, n10, n11, n12⟩ [] (put_none HB.out) W hGW HF.out)
    simp only [hdCells] at HMAY HPUT
    clear FF T33 T132 T165 T2 T0
    go_enter Tryd.func4, Tryd.ntmps4
    go_wp2_with fail
    refine HMK.out.mono ?_
    rintro e w1 ⟨rfl, hb1⟩
    have G1 := heap_alloc_new w1 (.cells #[.string (mkS n0), .int .i64 n1, .int .i64 n2, .int .i64 n3, .int .i64 n4, .int .i64 n5, .int .u8 (n6.toNat : Int), .string (mkS n7), .string (mkS n8), .string (mkS n9), .int .i64 n10, .int .i64 n11, .string (mkS n12)] 26)
    have B2 := Aside0.mk (below_alloc hb1 (.cells #[.string (mkS n0), .int .i64 n1, .int .i64 n2, .int .i64 n3, .int .i64 n4, .int .i64 n5, .int .u8 (n6.toNat : Int), .string (mkS n7), .string (mkS n8), .string (mkS n9), .int .i64 n10, .int .i64 n11, .string (mkS n12)] 26))
    obtain ⟨wz, hm, hbz, hsz, hcv⟩ := zeros_world 0 (by decide) (w1.alloc (.cells #[.string (mkS n0), .int .i64 n1, .int .i64 n2, .int .i64 n3, .int .i64 n4, .int .i64 n5, .int .u8 (n6.toNat : Int), .string (mkS n7), .string (mkS n8), .string (mkS n9), .int .i64 n10, .int .i64 n11, .string (mkS n12)] 26))
    rw [show ((0 : Nat) : Int) = 0 from rfl, show (w1.alloc (.cells #[.string (mkS n0), .int .i64 n1, .int .i64 n2, .int .i64 n3, .int .i64 n4, .int .i64 n5, .int .u8 (n6.toNat : Int), .string (mkS n7), .string (mkS n8), .string (mkS n9), .int .i64 n10, .int .i64 n11, .string (mkS n12)] 26)).heap.size = w1.heap.size + 1 by simp] at hm
    rw [show (w1.alloc (.cells #[.string (mkS n0), .int .i64 n1, .int .i64 n2, .int .i64 n3, .int .i64 n4, .int .i64 n5, .int .u8 (n6.toNat : Int), .string (mkS n7), .string (mkS n8), .string (mkS n9), .int .i64 n10, .int .i64 n11, .string (mkS n12)] 26)).heap.size = w1.heap.size + 1 by simp] at hcv
    have G2 := Aside0.mk ((hbz.block _ (blk_lt G1)).trans G1)
    have B3 := Aside0.mk (below_next B2.out hbz)
    have HS1 := Aside0.mk hb1.size
    clear hb1 G1 B2 hbz hsz HMK
    have c0 : wz.cell? ⟨w1.heap.size, 0, none⟩ = some (.string (mkS n0)) := blk_cell G2.out 0
    have c1 : wz.cell? ⟨w1.heap.size, 1, none⟩ = some (.int .i64 n1) := blk_cell G2.out 1
    have c2 : wz.cell? ⟨w1.heap.size, 2, none⟩ = some (.int .i64 n2) := blk_cell G2.out 2
    have c3 : wz.cell? ⟨w1.heap.size, 3, none⟩ = some (.int .i64 n3) := blk_cell G2.out 3
    have c4 : wz.cell? ⟨w1.heap.size, 4, none⟩ = some (.int .i64 n4) := blk_cell G2.out 4
    have c5 : wz.cell? ⟨w1.heap.size, 5, none⟩ = some (.int .i64 n5) := blk_cell G2.out 5
    have c6 : wz.cell? ⟨w1.heap.size, 6, none⟩ = some (.int .u8 (n6.toNat : Int)) := blk_cell G2.out 6
    have c7 : wz.cell? ⟨w1.heap.size, 7, none⟩ = some (.string (mkS n7)) := blk_cell G2.out 7
    have c8 : wz.cell? ⟨w1.heap.size, 8, none⟩ = some (.string (mkS n8)) := blk_cell G2.out 8
    have c9 : wz.cell? ⟨w1.heap.size, 9, none⟩ = some (.string (mkS n9)) := blk_cell G2.out 9
    have c10 : wz.cell? ⟨w1.heap.size, 10, none⟩ = some (.int .i64 n10) := blk_cell G2.out 10
    have c11 : wz.cell? ⟨w1.heap.size, 11, none⟩ = some (.int .i64 n11) := blk_cell G2.out 11
    have c12 : wz.cell? ⟨w1.heap.size, 12, none⟩ = some (.string (mkS n12)) := blk_cell G2.out 12
    have f0 := blk_frozen G2.out 0
    have lz := blk_lt G2.out
    go_wp2_with fail
    have B4 := Aside0.mk (Below.setCell B3.out (p := ⟨w1.heap.size, 0, none⟩) HS1.out (.string (mkS L132)))
    have g5 := blk_hit (i := 0) (v := .string (mkS L132)) G2.out
    simp only [List.setIfInBounds_toArray, List.set_cons_zero, List.set_cons_succ] at g5
    have G5 := Aside0.mk g5
    clear g5
    refine (HMAY.out _ (HG.out.below B4.out)).mono ?_
    rintro e w5 ⟨rfl, hb5⟩
    have G6 := Aside0.mk ((hb5.block _ (blk_lt G5.out)).trans G5.out)
    have B5 := Aside0.mk (below_next B4.out hb5)
    clear hb5 c0 c1 c2 c3 c4 c5 c6 c7 c8 c9 c10 c11 c12 f0 lz
    have c0 : w5.cell? ⟨w1.heap.size, 0, none⟩ = some (.string (mkS L132)) := blk_cell G6.out 0
    have c1 : w5.cell? ⟨w1.heap.size, 1, none⟩ = some (.int .i64 n1) := blk_cell G6.out 1
    have c2 : w5.cell? ⟨w1.heap.size, 2, none⟩ = some (.int .i64 n2) := blk_cell G6.out 2
    have c3 : w5.cell? ⟨w1.heap.size, 3, none⟩ = some (.int .i64 n3) := blk_cell G6.out 3
    have c4 : w5.cell? ⟨w1.heap.size, 4, none⟩ = some (.int .i64 n4) := blk_cell G6.out 4
    have c5 : w5.cell? ⟨w1.heap.size, 5, none⟩ = some (.int .i64 n5) := blk_cell G6.out 5
    have c6 : w5.cell? ⟨w1.heap.size, 6, none⟩ = some (.int .u8 (n6.toNat : Int)) := blk_cell G6.out 6
    have c7 : w5.cell? ⟨w1.heap.size, 7, none⟩ = some (.string (mkS n7)) := blk_cell G6.out 7
    have c8 : w5.cell? ⟨w1.heap.size, 8, none⟩ = some (.string (mkS n8)) := blk_cell G6.out 8
    have c9 : w5.cell? ⟨w1.heap.size, 9, none⟩ = some (.string (mkS n9)) := blk_cell G6.out 9
    have c10 : w5.cell? ⟨w1.heap.size, 10, none⟩ = some (.int .i64 n10) := blk_cell G6.out 10
    have c11 : w5.cell? ⟨w1.heap.size, 11, none⟩ = some (.int .i64 n11) := blk_cell G6.out 11
    have c12 : w5.cell? ⟨w1.heap.size, 12, none⟩ = some (.string (mkS n12)) := blk_cell G6.out 12
    have lz := blk_lt G6.out
    go_wp2_with fail
    refine (HPUT.out _ (HG.out.below B5.out)).mono ?_
    rintro e w6 ⟨rfl, hb6⟩
    have B6 := Aside0.mk (below_next B5.out hb6)
    clear hb6
    go_wp2_with fail
    refine (awake_any _ (HG.out.below B6.out)).mono ?_
    rintro e w7 ⟨rfl, hb7⟩
    have B7 := Aside0.mk (below_next B6.out hb7)
    clear hb7
    go_wp2
    go_ret
    exact ⟨rfl, B7.out⟩
  · have HB := Aside0.mk (show mayH ⟨n0, n1, n2, n3, n4, n5, n6, [97, 0], n8, n9, n10, n11, n12⟩ = false from textsOk_bad (.inr (.inl T2)))
    have HF : Aside0 (Fits ⟨n0, n1, n2, n3, n4, n5, n6, [97, 0], n8, n9, n10, n11, n12⟩) := ⟨by have f := FF.out; exact ⟨⟨f.ints.mode, f.ints.uid, f.ints.gid, f.ints.size, f.ints.mtime, f.ints.major, f.ints.minor⟩, f.name, (by simp only [k33, k132, k165, List.length_cons, List.length_nil]; decide), f.uname, f.gname, f.pre⟩⟩
    have HMAY := Aside0.mk (fun W hGW => may_is ⟨n0, n1, n2, n3, n4, n5, n6, [97, 0], n8, n9, n10, n11, n12⟩ false HB.out W hGW HF.out)
    have HPUT := Aside0.mk (fun W hGW => put_is ⟨n0, n1, n2, n3, n4, n5, n6, [97, 0], n8, n9, n10, n11, n12⟩ [] (put_none HB.out) W hGW HF.out)
    simp only [hdCells] at HMAY HPUT
    clear FF T33 T132 T165 T2 T0
    go_enter Tryd.func4, Tryd.ntmps4
    go_wp2_with fail
    refine HMK.out.mono ?_
    rintro e w1 ⟨rfl, hb1⟩
    have G1 := heap_alloc_new w1 (.cells #[.string (mkS n0), .int .i64 n1, .int .i64 n2, .int .i64 n3, .int .i64 n4, .int .i64 n5, .int .u8 (n6.toNat : Int), .string (mkS n7), .string (mkS n8), .string (mkS n9), .int .i64 n10, .int .i64 n11, .string (mkS n12)] 26)
    have B2 := Aside0.mk (below_alloc hb1 (.cells #[.string (mkS n0), .int .i64 n1, .int .i64 n2, .int .i64 n3, .int .i64 n4, .int .i64 n5, .int .u8 (n6.toNat : Int), .string (mkS n7), .string (mkS n8), .string (mkS n9), .int .i64 n10, .int .i64 n11, .string (mkS n12)] 26))
    obtain ⟨wz, hm, hbz, hsz, hcv⟩ := zeros_world 0 (by decide) (w1.alloc (.cells #[.string (mkS n0), .int .i64 n1, .int .i64 n2, .int .i64 n3, .int .i64 n4, .int .i64 n5, .int .u8 (n6.toNat : Int), .string (mkS n7), .string (mkS n8), .string (mkS n9), .int .i64 n10, .int .i64 n11, .string (mkS n12)] 26))
    rw [show ((0 : Nat) : Int) = 0 from rfl, show (w1.alloc (.cells #[.string (mkS n0), .int .i64 n1, .int .i64 n2, .int .i64 n3, .int .i64 n4, .int .i64 n5, .int .u8 (n6.toNat : Int), .string (mkS n7), .string (mkS n8), .string (mkS n9), .int .i64 n10, .int .i64 n11, .string (mkS n12)] 26)).heap.size = w1.heap.size + 1 by simp] at hm
    rw [show (w1.alloc (.cells #[.string (mkS n0), .int .i64 n1, .int .i64 n2, .int .i64 n3, .int .i64 n4, .int .i64 n5, .int .u8 (n6.toNat : Int), .string (mkS n7), .string (mkS n8), .string (mkS n9), .int .i64 n10, .int .i64 n11, .string (mkS n12)] 26)).heap.size = w1.heap.size + 1 by simp] at hcv
    have G2 := Aside0.mk ((hbz.block _ (blk_lt G1)).trans G1)
    have B3 := Aside0.mk (below_next B2.out hbz)
    have HS1 := Aside0.mk hb1.size
    clear hb1 G1 B2 hbz hsz HMK
    have c0 : wz.cell? ⟨w1.heap.size, 0, none⟩ = some (.string (mkS n0)) := blk_cell G2.out 0
    have c1 : wz.cell? ⟨w1.heap.size, 1, none⟩ = some (.int .i64 n1) := blk_cell G2.out 1
    have c2 : wz.cell? ⟨w1.heap.size, 2, none⟩ = some (.int .i64 n2) := blk_cell G2.out 2
    have c3 : wz.cell? ⟨w1.heap.size, 3, none⟩ = some (.int .i64 n3) := blk_cell G2.out 3
    have c4 : wz.cell? ⟨w1.heap.size, 4, none⟩ = some (.int .i64 n4) := blk_cell G2.out 4
    have c5 : wz.cell? ⟨w1.heap.size, 5, none⟩ = some (.int .i64 n5) := blk_cell G2.out 5
    have c6 : wz.cell? ⟨w1.heap.size, 6, none⟩ = some (.int .u8 (n6.toNat : Int)) := blk_cell G2.out 6
    have c7 : wz.cell? ⟨w1.heap.size, 7, none⟩ = some (.string (mkS n7)) := blk_cell G2.out 7
    have c8 : wz.cell? ⟨w1.heap.size, 8, none⟩ = some (.string (mkS n8)) := blk_cell G2.out 8
    have c9 : wz.cell? ⟨w1.heap.size, 9, none⟩ = some (.string (mkS n9)) := blk_cell G2.out 9
    have c10 : wz.cell? ⟨w1.heap.size, 10, none⟩ = some (.int .i64 n10) := blk_cell G2.out 10
    have c11 : wz.cell? ⟨w1.heap.size, 11, none⟩ = some (.int .i64 n11) := blk_cell G2.out 11
    have c12 : wz.cell? ⟨w1.heap.size, 12, none⟩ = some (.string (mkS n12)) := blk_cell G2.out 12
    have f7 := blk_frozen G2.out 7
    have lz := blk_lt G2.out
    go_wp2_with fail
    have B4 := Aside0.mk (Below.setCell B3.out (p := ⟨w1.heap.size, 7, none⟩) HS1.out (.string (mkS [97, 0])))
    have g5 := blk_hit (i := 7) (v := .string (mkS [97, 0])) G2.out
    simp only [List.setIfInBounds_toArray, List.set_cons_zero, List.set_cons_succ] at g5
    have G5 := Aside0.mk g5
    clear g5
    refine (HMAY.out _ (HG.out.below B4.out)).mono ?_
    rintro e w5 ⟨rfl, hb5⟩
    have G6 := Aside0.mk ((hb5.block _ (blk_lt G5.out)).trans G5.out)
    have B5 := Aside0.mk (below_next B4.out hb5)
    clear hb5 c0 c1 c2 c3 c4 c5 c6 c7 c8 c9 c10 c11 c12 f7 lz
    have c0 : w5.cell? ⟨w1.heap.size, 0, none⟩ = some (.string (mkS n0)) := blk_cell G6.out 0
    have c1 : w5.cell? ⟨w1.heap.size, 1, none⟩ = some (.int .i64 n1) := blk_cell G6.out 1
    have c2 : w5.cell? ⟨w1.heap.size, 2, none⟩ = some (.int .i64 n2) := blk_cell G6.out 2
    have c3 : w5.cell? ⟨w1.heap.size, 3, none⟩ = some (.int .i64 n3) := blk_cell G6.out 3
    have c4 : w5.cell? ⟨w1.heap.size, 4, none⟩ = some (.int .i64 n4) := blk_cell G6.out 4
    have c5 : w5.cell? ⟨w1.heap.size, 5, none⟩ = some (.int .i64 n5) := blk_cell G6.out 5
    have c6 : w5.cell? ⟨w1.heap.size, 6, none⟩ = some (.int .u8 (n6.toNat : Int)) := blk_cell G6.out 6
    have c7 : w5.cell? ⟨w1.heap.size, 7, none⟩ = some (.string (mkS [97, 0])) := blk_cell G6.out 7
    have c8 : w5.cell? ⟨w1.heap.size, 8, none⟩ = some (.string (mkS n8)) := blk_cell G6.out 8
    have c9 : w5.cell? ⟨w1.heap.size, 9, none⟩ = some (.string (mkS n9)) := blk_cell G6.out 9
    have c10 : w5.cell? ⟨w1.heap.size, 10, none⟩ = some (.int .i64 n10) := blk_cell G6.out 10
    have c11 : w5.cell? ⟨w1.heap.size, 11, none⟩ = some (.int .i64 n11) := blk_cell G6.out 11
    have c12 : w5.cell? ⟨w1.heap.size, 12, none⟩ = some (.string (mkS n12)) := blk_cell G6.out 12
    have lz := blk_lt G6.out
    go_wp2_with fail
    refine (HPUT.out _ (HG.out.below B5.out)).mono ?_
    rintro e w6 ⟨rfl, hb6⟩
    have B6 := Aside0.mk (below_next B5.out hb6)
    clear hb6
    go_wp2_with fail
    refine (awake_any _ (HG.out.below B6.out)).mono ?_
    rintro e w7 ⟨rfl, hb7⟩
    have B7 := Aside0.mk (below_next B6.out hb7)
    clear hb7
    go_wp2
    go_ret
    exact ⟨rfl, B7.out⟩
  · have HB := Aside0.mk (show mayH ⟨n0, n1, n2, n3, n4, n5, n6, n7, L33, n9, n10, n11, n12⟩ = false from textsOk_bad (.inr (.inr (.inl T33))))
    have HF : Aside0 (Fits ⟨n0, n1, n2, n3, n4, n5, n6, n7, L33, n9, n10, n11, n12⟩) := ⟨by have f := FF.out; exact ⟨⟨f.ints.mode, f.ints.uid, f.ints.gid, f.ints.size, f.ints.mtime, f.ints.major, f.ints.minor⟩, f.name, f.link, (by simp only [k33, k132, k165, List.length_cons, List.length_nil]; decide), f.gname, f.pre⟩⟩
    have HMAY := Aside0.mk (fun W hGW => may_is ⟨n0, n1, n2, n3, n4, n5, n6, n7, L33, n9, n10, n11, n12⟩ false HB.out W hGW HF.out)
    have HPUT := Aside0.mk (fun W hGW => put_is ⟨n0, n1, n2, n3, n4, n5, n6, n7, L33, n9, n10, n11, n12⟩ [] (put_none HB.out) W hGW HF.out)
    simp only [hdCells] at HMAY HPUT
    clear FF T33 T132 T165 T2 T0
    go_enter Tryd.func4, Tryd.ntmps4
    go_wp2_with fail
    refine HMK.out.mono ?_
    rintro e w1 ⟨rfl, hb1⟩
    have G1 := heap_alloc_new w1 (.cells #[.string (mkS n0), .int .i64 n1, .int .i64 n2, .int .i64 n3, .int .i64 n4, .int .i64 n5, .int .u8 (n6.toNat : Int), .string (mkS n7), .string (mkS n8), .string (mkS n9), .int .i64 n10, .int .i64 n11, .string (mkS n12)] 26)
    have B2 := Aside0.mk (below_alloc hb1 (.cells #[.string (mkS n0), .int .i64 n1, .int .i64 n2, .int .i64 n3, .int .i64 n4, .int .i64 n5, .int .u8 (n6.toNat : Int), .string (mkS n7), .string (mkS n8), .string (mkS n9), .int .i64 n10, .int .i64 n11, .string (mkS n12)] 26))
    obtain ⟨wz, hm, hbz, hsz, hcv⟩ := zeros_world 0 (by decide) (w1.alloc (.cells #[.string (mkS n0), .int .i64 n1, .int .i64 n2, .int .i64 n3, .int .i64 n4, .int .i64 n5, .int .u8 (n6.toNat : Int), .string (mkS n7), .string (mkS n8), .string (mkS n9), .int .i64 n10, .int .i64 n11, .string (mkS n12)] 26))
    rw [show ((0 : Nat) : Int) = 0 from rfl, show (w1.alloc (.cells #[.string (mkS n0), .int .i64 n1, .int .i64 n2, .int .i64 n3, .int .i64 n4, .int .i64 n5, .int .u8 (n6.toNat : Int), .string (mkS n7), .string (mkS n8), .string (mkS n9), .int .i64 n10, .int .i64 n11, .string (mkS n12)] 26)).heap.size = w1.heap.size + 1 by simp] at hm
    rw [show (w1.alloc (.cells #[.string (mkS n0), .int .i64 n1, .int .i64 n2, .int .i64 n3, .int .i64 n4, .int .i64 n5, .int .u8 (n6.toNat : Int), .string (mkS n7), .string (mkS n8), .string (mkS n9), .int .i64 n10, .int .i64 n11, .string (mkS n12)] 26)).heap.size = w1.heap.size + 1 by simp] at hcv
    have G2 := Aside0.mk ((hbz.block _ (blk_lt G1)).trans G1)
    have B3 := Aside0.mk (below_next B2.out hbz)
    have HS1 := Aside0.mk hb1.size
    clear hb1 G1 B2 hbz hsz HMK
    have c0 : wz.cell? ⟨w1.heap.size, 0, none⟩ = some (.string (mkS n0)) := blk_cell G2.out 0
    have c1 : wz.cell? ⟨w1.heap.size, 1, none⟩ = some (.int .i64 n1) := blk_cell G2.out 1
    have c2 : wz.cell? ⟨w1.heap.size, 2, none⟩ = some (.int .i64 n2) := blk_cell G2.out 2
    have c3 : wz.cell? ⟨w1.heap.size, 3, none⟩ = some (.int .i64 n3) := blk_cell G2.out 3
    have c4 : wz.cell? ⟨w1.heap.size, 4, none⟩ = some (.int .i64 n4) := blk_cell G2.out 4
    have c5 : wz.cell? ⟨w1.heap.size, 5, none⟩ = some (.int .i64 n5) := blk_cell G2.out 5
    have c6 : wz.cell? ⟨w1.heap.size, 6, none⟩ = some (.int .u8 (n6.toNat : Int)) := blk_cell G2.out 6
    have c7 : wz.cell? ⟨w1.heap.size, 7, none⟩ = some (.string (mkS n7)) := blk_cell G2.out 7
    have c8 : wz.cell? ⟨w1.heap.size, 8, none⟩ = some (.string (mkS n8)) := blk_cell G2.out 8
    have c9 : wz.cell? ⟨w1.heap.size, 9, none⟩ = some (.string (mkS n9)) := blk_cell G2.out 9
    have c10 : wz.cell? ⟨w1.heap.size, 10, none⟩ = some (.int .i64 n10) := blk_cell G2.out 10
    have c11 : wz.cell? ⟨w1.heap.size, 11, none⟩ = some (.int .i64 n11) := blk_cell G2.out 11
    have c12 : wz.cell? ⟨w1.heap.size, 12, none⟩ = some (.string (mkS n12)) := blk_cell G2.out 12
    have f8 := blk_frozen G2.out 8
    have lz := blk_lt G2.out
    go_wp2_with fail
    have B4 := Aside0.mk (Below.setCell B3.out (p := ⟨w1.heap.size, 8, none⟩) HS1.out (.string (mkS L33)))
    have g5 := blk_hit (i := 8) (v := .string (mkS L33)) G2.out
    simp only [List.setIfInBounds_toArray, List.set_cons_zero, List.set_cons_succ] at g5
    have G5 := Aside0.mk g5
    clear g5
    refine (HMAY.out _ (HG.out.below B4.out)).mono ?_
    rintro e w5 ⟨rfl, hb5⟩
    have G6 := Aside0.mk ((hb5.block _ (blk_lt G5.out)).trans G5.out)
    have B5 := Aside0.mk (below_next B4.out hb5)
    clear hb5 c0 c1 c2 c3 c4 c5 c6 c7 c8 c9 c10 c11 c12 f8 lz
    have c0 : w5.cell? ⟨w1.heap.size, 0, none⟩ = some (.string (mkS n0)) := blk_cell G6.out 0
    have c1 : w5.cell? ⟨w1.heap.size, 1, none⟩ = some (.int .i64 n1) := blk_cell G6.out 1
    have c2 : w5.cell? ⟨w1.heap.size, 2, none⟩ = some (.int .i64 n2) := blk_cell G6.out 2
    have c3 : w5.cell? ⟨w1.heap.size, 3, none⟩ = some (.int .i64 n3) := blk_cell G6.out 3
    have c4 : w5.cell? ⟨w1.heap.size, 4, none⟩ = some (.int .i64 n4) := blk_cell G6.out 4
    have c5 : w5.cell? ⟨w1.heap.size, 5, none⟩ = some (.int .i64 n5) := blk_cell G6.out 5
    have c6 : w5.cell? ⟨w1.heap.size, 6, none⟩ = some (.int .u8 (n6.toNat : Int)) := blk_cell G6.out 6
    have c7 : w5.cell? ⟨w1.heap.size, 7, none⟩ = some (.string (mkS n7)) := blk_cell G6.out 7
    have c8 : w5.cell? ⟨w1.heap.size, 8, none⟩ = some (.string (mkS L33)) := blk_cell G6.out 8
    have c9 : w5.cell? ⟨w1.heap.size, 9, none⟩ = some (.string (mkS n9)) := blk_cell G6.out 9
    have c10 : w5.cell? ⟨w1.heap.size, 10, none⟩ = some (.int .i64 n10) := blk_cell G6.out 10
    have c11 : w5.cell? ⟨w1.heap.size, 11, none⟩ = some (.int .i64 n11) := blk_cell G6.out 11
    have c12 : w5.cell? ⟨w1.heap.size, 12, none⟩ = some (.string (mkS n12)) := blk_cell G6.out 12
    have lz := blk_lt G6.out
    go_wp2_with fail
    refine (HPUT.out _ (HG.out.below B5.out)).mono ?_
    rintro e w6 ⟨rfl, hb6⟩
    have B6 := Aside0.mk (below_next B5.out hb6)
    clear hb6
    go_wp2_with fail
    refine (awake_any _ (HG.out.below B6.out)).mono ?_
    rintro e w7 ⟨rfl, hb7⟩
    have B7 := Aside0.mk (below_next B6.out hb7)
    clear hb7
    go_wp2
    go_ret
    exact ⟨rfl, B7.out⟩
  · have HB := Aside0.mk (show mayH ⟨n0, n1, n2, n3, n4, n5, n6, n7, n8, [0], n10, n11, n12⟩ = false from textsOk_bad (.inr (.inr (.inr (.inl T0)))))
    have HF : Aside0 (Fits ⟨n0, n1, n2, n3, n4, n5, n6, n7, n8, [0], n10, n11, n12⟩) := ⟨by have f := FF.out; exact ⟨⟨f.ints.mode, f.ints.uid, f.ints.gid, f.ints.size, f.ints.mtime, f.ints.major, f.ints.minor⟩, f.name, f.link, f.uname, (by simp only [k33, k132, k165, List.length_cons, List.length_nil]; decide), f.pre⟩⟩
    have HMAY := Aside0.mk (fun W hGW => may_is ⟨n0, n1, n2, n3, n4, n5, n6, n7, n8, [0], n10, n11, n12⟩ false HB.out W hGW HF.out)
    have HPUT := Aside0.mk (fun W hGW => put_is ⟨n0, n1, n2, n3, n4, n5, n6, n7, n8, [0], n10, n11, n12⟩ [] (put_none HB.out) W hGW HF.out)
    simp only [hdCells] at HMAY HPUT
    clear FF T33 T132 T165 T2 T0
    go_enter Tryd.func4, Tryd.ntmps4
    go_wp2_with fail
    refine HMK.out.mono ?_
    rintro e w1 ⟨rfl, hb1⟩
    have G1 := heap_alloc_new w1 (.cells #[.string (mkS n0), .int .i64 n1, .int .i64 n2, .int .i64 n3, .int .i64 n4, .int .i64 n5, .int .u8 (n6.toNat : Int), .string (mkS n7), .string (mkS n8), .string (mkS n9), .int .i64 n10, .int .i64 n11, .string (mkS n12)] 26)
    have B2 := Aside0.mk (below_alloc hb1 (.cells #[.string (mkS n0), .int .i64 n1, .int .i64 n2, .int .i64 n3, .int .i64 n4, .int .i64 n5, .int .u8 (n6.toNat : Int), .string (mkS n7), .string (mkS n8), .string (mkS n9), .int .i64 n10, .int .i64 n11, .string (mkS n12)] 26))
    obtain ⟨wz, hm, hbz, hsz, hcv⟩ := zeros_world 0 (by decide) (w1.alloc (.cells #[.string (mkS n0), .int .i64 n1, .int .i64 n2, .int .i64 n3, .int .i64 n4, .int .i64 n5, .int .u8 (n6.toNat : Int), .string (mkS n7), .string (mkS n8), .string (mkS n9), .int .i64 n10, .int .i64 n11, .string (mkS n12)] 26))
    rw [show ((0 : Nat) : Int) = 0 from rfl, show (w1.alloc (.cells #[.string (mkS n0), .int .i64 n1, .int .i64 n2, .int .i64 n3, .int .i64 n4, .int .i64 n5, .int .u8 (n6.toNat : Int), .string (mkS n7), .string (mkS n8), .string (mkS n9), .int .i64 n10, .int .i64 n11, .string (mkS n12)] 26)).heap.size = w1.heap.size + 1 by simp] at hm
    rw [show (w1.alloc (.cells #[.string (mkS n0), .int .i64 n1, .int .i64 n2, .int .i64 n3, .int .i64 n4, .int .i64 n5, .int .u8 (n6.toNat : Int), .string (mkS n7), .string (mkS n8), .string (mkS n9), .int .i64 n10, .int .i64 n11, .string (mkS n12)] 26)).heap.size = w1.heap.size + 1 by simp] at hcv
    have G2 := Aside0.mk ((hbz.block _ (blk_lt G1)).trans G1)
    have B3 := Aside0.mk (below_next B2.out hbz)
    have HS1 := Aside0.mk hb1.size
    clear hb1 G1 B2 hbz hsz HMK
    have c0 : wz.cell? ⟨w1.heap.size, 0, none⟩ = some (.string (mkS n0)) := blk_cell G2.out 0
    have c1 : wz.cell? ⟨w1.heap.size, 1, none⟩ = some (.int .i64 n1) := blk_cell G2.out 1
    have c2 : wz.cell? ⟨w1.heap.size, 2, none⟩ = some (.int .i64 n2) := blk_cell G2.out 2
    have c3 : wz.cell? ⟨w1.heap.size, 3, none⟩ = some (.int .i64 n3) := blk_cell G2.out 3
    have c4 : wz.cell? ⟨w1.heap.size, 4, none⟩ = some (.int .i64 n4) := blk_cell G2.out 4
    have c5 : wz.cell? ⟨w1.heap.size, 5, none⟩ = some (.int .i64 n5) := blk_cell G2.out 5
    have c6 : wz.cell? ⟨w1.heap.size, 6, none⟩ = some (.int .u8 (n6.toNat : Int)) := blk_cell G2.out 6
    have c7 : wz.cell? ⟨w1.heap.size, 7, none⟩ = some (.string (mkS n7)) := blk_cell G2.out 7
    have c8 : wz.cell? ⟨w1.heap.size, 8, none⟩ = some (.string (mkS n8)) := blk_cell G2.out 8
    have c9 : wz.cell? ⟨w1.heap.size, 9, none⟩ = some (.string (mkS n9)) := blk_cell G2.out 9
    have c10 : wz.cell? ⟨w1.heap.size, 10, none⟩ = some (.int .i64 n10) := blk_cell G2.out 10
    have c11 : wz.cell? ⟨w1.heap.size, 11, none⟩ = some (.int .i64 n11) := blk_cell G2.out 11
    have c12 : wz.cell? ⟨w1.heap.size, 12, none⟩ = some (.string (mkS n12)) := blk_cell G2.out 12
    have f9 := blk_frozen G2.out 9
    have lz := blk_lt G2.out
    go_wp2_with fail
    have B4 := Aside0.mk (Below.setCell B3.out (p := ⟨w1.heap.size, 9, none⟩) HS1.out (.string (mkS [0])))
    have g5 := blk_hit (i := 9) (v := .string (mkS [0])) G2.out
    simp only [List.setIfInBounds_toArray, List.set_cons_zero, List.set_cons_succ] at g5
    have G5 := Aside0.mk g5
    clear g5
    refine (HMAY.out _ (HG.out.below B4.out)).mono ?_
    rintro e w5 ⟨rfl, hb5⟩
    have G6 := Aside0.mk ((hb5.block _ (blk_lt G5.out)).trans G5.out)
    have B5 := Aside0.mk (below_next B4.out hb5)
    clear hb5 c0 c1 c2 c3 c4 c5 c6 c7 c8 c9 c10 c11 c12 f9 lz
    have c0 : w5.cell? ⟨w1.heap.size, 0, none⟩ = some (.string (mkS n0)) := blk_cell G6.out 0
    have c1 : w5.cell? ⟨w1.heap.size, 1, none⟩ = some (.int .i64 n1) := blk_cell G6.out 1
    have c2 : w5.cell? ⟨w1.heap.size, 2, none⟩ = some (.int .i64 n2) := blk_cell G6.out 2
    have c3 : w5.cell? ⟨w1.heap.size, 3, none⟩ = some (.int .i64 n3) := blk_cell G6.out 3
    have c4 : w5.cell? ⟨w1.heap.size, 4, none⟩ = some (.int .i64 n4) := blk_cell G6.out 4
    have c5 : w5.cell? ⟨w1.heap.size, 5, none⟩ = some (.int .i64 n5) := blk_cell G6.out 5
    have c6 : w5.cell? ⟨w1.heap.size, 6, none⟩ = some (.int .u8 (n6.toNat : Int)) := blk_cell G6.out 6
    have c7 : w5.cell? ⟨w1.heap.size, 7, none⟩ = some (.string (mkS n7)) := blk_cell G6.out 7
    have c8 : w5.cell? ⟨w1.heap.size, 8, none⟩ = some (.string (mkS n8)) := blk_cell G6.out 8
    have c9 : w5.cell? ⟨w1.heap.size, 9, none⟩ = some (.string (mkS [0])) := blk_cell G6.out 9
    have c10 : w5.cell? ⟨w1.heap.size, 10, none⟩ = some (.int .i64 n10) := blk_cell G6.out 10
    have c11 : w5.cell? ⟨w1.heap.size, 11, none⟩ = some (.int .i64 n11) := blk_cell G6.out 11
    have c12 : w5.cell? ⟨w1.heap.size, 12, none⟩ = some (.string (mkS n12)) := blk_cell G6.out 12
    have lz := blk_lt G6.out
    go_wp2_with fail
    refine (HPUT.out _ (HG.out.below B5.out)).mono ?_
    rintro e w6 ⟨rfl, hb6⟩
    have B6 := Aside0.mk (below_next B5.out hb6)
    clear hb6
    go_wp2_with fail
    refine (awake_any _ (HG.out.below B6.out)).mono ?_
    rintro e w7 ⟨rfl, hb7⟩
    have B7 := Aside0.mk (below_next B6.out hb7)
    clear hb7
    go_wp2
    go_ret
    exact ⟨rfl, B7.out⟩
  · have HB := Aside0.mk (show mayH ⟨n0, n1, n2, n3, n4, n5, n6, n7, n8, n9, n10, n11, L165⟩ = false from textsOk_bad (.inr (.inr (.inr (.inr T165)))))
    have HF : Aside0 (Fits ⟨n0, n1, n2, n3, n4, n5, n6, n7, n8, n9, n10, n11, L165⟩) := ⟨by have f := FF.out; exact ⟨⟨f.ints.mode, f.ints.uid, f.ints.gid, f.ints.size, f.ints.mtime, f.ints.major, f.ints.minor⟩, f.name, f.link, f.uname, f.gname, (by simp only [k33, k132, k165, List.length_cons, List.length_nil]; decide)⟩⟩
    have HMAY := Aside0.mk (fun W hGW => may_is ⟨n0, n1, n2, n3, n4, n5, n6, n7, n8, n9, n10, n11, L165⟩ false HB.out W hGW HF.out)
    have HPUT := Aside0.mk (fun W hGW => put_is ⟨n0, n1, n2, n3, n4, n5, n6, n7, n8, n9, n10, n11, L165⟩ [] (put_none HB.out) W hGW HF.out)
    simp only [hdCells] at HMAY HPUT
    clear FF T33 T132 T165 T2 T0
    go_enter Tryd.func4, Tryd.ntmps4
    go_wp2_with fail
    refine HMK.out.mono ?_
    rintro e w1 ⟨rfl, hb1⟩
    have G1 := heap_alloc_new w1 (.cells #[.string (mkS n0), .int .i64 n1, .int .i64 n2, .int .i64 n3, .int .i64 n4, .int .i64 n5, .int .u8 (n6.toNat : Int), .string (mkS n7), .string (mkS n8), .string (mkS n9), .int .i64 n10, .int .i64 n11, .string (mkS n12)] 26)
    have B2 := Aside0.mk (below_alloc hb1 (.cells #[.string (mkS n0), .int .i64 n1, .int .i64 n2, .int .i64 n3, .int .i64 n4, .int .i64 n5, .int .u8 (n6.toNat : Int), .string (mkS n7), .string (mkS n8), .string (mkS n9), .int .i64 n10, .int .i64 n11, .string (mkS n12)] 26))
    obtain ⟨wz, hm, hbz, hsz, hcv⟩ := zeros_world 0 (by decide) (w1.alloc (.cells #[.string (mkS n0), .int .i64 n1, .int .i64 n2, .int .i64 n3, .int .i64 n4, .int .i64 n5, .int .u8 (n6.toNat : Int), .string (mkS n7), .string (mkS n8), .string (mkS n9), .int .i64 n10, .int .i64 n11, .string (mkS n12)] 26))
    rw [show ((0 : Nat) : Int) = 0 from rfl, show (w1.alloc (.cells #[.string (mkS n0), .int .i64 n1, .int .i64 n2, .int .i64 n3, .int .i64 n4, .int .i64 n5, .int .u8 (n6.toNat : Int), .string (mkS n7), .string (mkS n8), .string (mkS n9), .int .i64 n10, .int .i64 n11, .string (mkS n12)] 26)).heap.size = w1.heap.size + 1 by simp] at hm
    rw [show (w1.alloc (.cells #[.string (mkS n0), .int .i64 n1, .int .i64 n2, .int .i64 n3, .int .i64 n4, .int .i64 n5, .int .u8 (n6.toNat : Int), .string (mkS n7), .string (mkS n8), .string (mkS n9), .int .i64 n10, .int .i64 n11, .string (mkS n12)] 26)).heap.size = w1.heap.size + 1 by simp] at hcv
    have G2 := Aside0.mk ((hbz.block _ (blk_lt G1)).trans G1)
    have B3 := Aside0.mk (below_next B2.out hbz)
    have HS1 := Aside0.mk hb1.size
    clear hb1 G1 B2 hbz hsz HMK
    have c0 : wz.cell? ⟨w1.heap.size, 0, none⟩ = some (.string (mkS n0)) := blk_cell G2.out 0
    have c1 : wz.cell? ⟨w1.heap.size, 1, none⟩ = some (.int .i64 n1) := blk_cell G2.out 1
    have c2 : wz.cell? ⟨w1.heap.size, 2, none⟩ = some (.int .i64 n2) := blk_cell G2.out 2
    have c3 : wz.cell? ⟨w1.heap.size, 3, none⟩ = some (.int .i64 n3) := blk_cell G2.out 3
    have c4 : wz.cell? ⟨w1.heap.size, 4, none⟩ = some (.int .i64 n4) := blk_cell G2.out 4
    have c5 : wz.cell? ⟨w1.heap.size, 5, none⟩ = some (.int .i64 n5) := blk_cell G2.out 5
    have c6 : wz.cell? ⟨w1.heap.size, 6, none⟩ = some (.int .u8 (n6.toNat : Int)) := blk_cell G2.out 6
    have c7 : wz.cell? ⟨w1.heap.size, 7, none⟩ = some (.string (mkS n7)) := blk_cell G2.out 7
    have c8 : wz.cell? ⟨w1.heap.size, 8, none⟩ = some (.string (mkS n8)) := blk_cell G2.out 8
    have c9 : wz.cell? ⟨w1.heap.size, 9, none⟩ = some (.string (mkS n9)) := blk_cell G2.out 9
    have c10 : wz.cell? ⟨w1.heap.size, 10, none⟩ = some (.int .i64 n10) := blk_cell G2.out 10
    have c11 : wz.cell? ⟨w1.heap.size, 11, none⟩ = some (.int .i64 n11) := blk_cell G2.out 11
    have c12 : wz.cell? ⟨w1.heap.size, 12, none⟩ = some (.string (mkS n12)) := blk_cell G2.out 12
    have f12 := blk_frozen G2.out 12
    have lz := blk_lt G2.out
    go_wp2_with fail
    have B4 := Aside0.mk (Below.setCell B3.out (p := ⟨w1.heap.size, 12, none⟩) HS1.out (.string (mkS L165)))
    have g5 := blk_hit (i := 12) (v := .string (mkS L165)) G2.out
    simp only [List.setIfInBounds_toArray, List.set_cons_zero, List.set_cons_succ] at g5
    have G5 := Aside0.mk g5
    clear g5
    refine (HMAY.out _ (HG.out.below B4.out)).mono ?_
    rintro e w5 ⟨rfl, hb5⟩
    have G6 := Aside0.mk ((hb5.block _ (blk_lt G5.out)).trans G5.out)
    have B5 := Aside0.mk (below_next B4.out hb5)
    clear hb5 c0 c1 c2 c3 c4 c5 c6 c7 c8 c9 c10 c11 c12 f12 lz
    have c0 : w5.cell? ⟨w1.heap.size, 0, none⟩ = some (.string (mkS n0)) := blk_cell G6.out 0
    have c1 : w5.cell? ⟨w1.heap.size, 1, none⟩ = some (.int .i64 n1) := blk_cell G6.out 1
    have c2 : w5.cell? ⟨w1.heap.size, 2, none⟩ = some (.int .i64 n2) := blk_cell G6.out 2
    have c3 : w5.cell? ⟨w1.heap.size, 3, none⟩ = some (.int .i64 n3) := blk_cell G6.out 3
    have c4 : w5.cell? ⟨w1.heap.size, 4, none⟩ = some (.int .i64 n4) := blk_cell G6.out 4
    have c5 : w5.cell? ⟨w1.heap.size, 5, none⟩ = some (.int .i64 n5) := blk_cell G6.out 5
    have c6 : w5.cell? ⟨w1.heap.size, 6, none⟩ = some (.int .u8 (n6.toNat : Int)) := blk_cell G6.out 6
    have c7 : w5.cell? ⟨w1.heap.size, 7, none⟩ = some (.string (mkS n7)) := blk_cell G6.out 7
    have c8 : w5.cell? ⟨w1.heap.size, 8, none⟩ = some (.string (mkS n8)) := blk_cell G6.out 8
    have c9 : w5.cell? ⟨w1.heap.size, 9, none⟩ = some (.string (mkS n9)) := blk_cell G6.out 9
    have c10 : w5.cell? ⟨w1.heap.size, 10, none⟩ = some (.int .i64 n10) := blk_cell G6.out 10
    have c11 : w5.cell? ⟨w1.heap.size, 11, none⟩ = some (.int .i64 n11) := blk_cell G6.out 11
    have c12 : w5.cell? ⟨w1.heap.size, 12, none⟩ = some (.string (mkS L165)) := blk_cell G6.out 12
    have lz := blk_lt G6.out
    go_wp2_with fail
    refine (HPUT.out _ (HG.out.below B5.out)).mono ?_
    rintro e w6 ⟨rfl, hb6⟩
    have B6 := Aside0.mk (below_next B5.out hb6)
    clear hb6
    go_wp2_with fail
    refine (awake_any _ (HG.out.below B6.out)).mono ?_
    rintro e w7 ⟨rfl, hb7⟩
    have B7 := Aside0.mk (below_next B6.out hb7)
    clear hb7
    go_wp2
    go_ret
    exact ⟨rfl, B7.out⟩
  · have HB := Aside0.mk (show mayH ⟨n0, (-1), n2, n3, n4, n5, n6, n7, n8, n9, n10, n11, n12⟩ = false from mayH_no_num (n := (-1)) (by simp [numsL]) (by decide))
    have HF : Aside0 (Fits ⟨n0, (-1), n2, n3, n4, n5, n6, n7, n8, n9, n10, n11, n12⟩) := ⟨by have f := FF.out; exact ⟨⟨(by show (-9223372036854775808 : Int) ≤ (-1) ∧ ((-1) : Int) ≤ 9223372036854775807; decide), f.ints.uid, f.ints.gid, f.ints.size, f.ints.mtime, f.ints.major, f.ints.minor⟩, f.name, f.link, f.uname, f.gname, f.pre⟩⟩
    have HMAY := Aside0.mk (fun W hGW => may_is ⟨n0, (-1), n2, n3, n4, n5, n6, n7, n8, n9, n10, n11, n12⟩ false HB.out W hGW HF.out)
    have HPUT := Aside0.mk (fun W hGW => put_is ⟨n0, (-1), n2, n3, n4, n5, n6, n7, n8, n9, n10, n11, n12⟩ [] (put_none HB.out) W hGW HF.out)
    simp only [hdCells] at HMAY HPUT
    clear FF T33 T132 T165 T2 T0
    go_enter Tryd.func4, Tryd.ntmps4
    go_wp2_with fail
    refine HMK.out.mono ?_
    rintro e w1 ⟨rfl, hb1⟩
    have G1 := heap_alloc_new w1 (.cells #[.string (mkS n0), .int .i64 n1, .int .i64 n2, .int .i64 n3, .int .i64 n4, .int .i64 n5, .int .u8 (n6.toNat : Int), .string (mkS n7), .string (mkS n8), .string (mkS n9), .int .i64 n10, .int .i64 n11, .string (mkS n12)] 26)
    have B2 := Aside0.mk (below_alloc hb1 (.cells #[.string (mkS n0), .int .i64 n1, .int .i64 n2, .int .i64 n3, .int .i64 n4, .int .i64 n5, .int .u8 (n6.toNat : Int), .string (mkS n7), .string (mkS n8), .string (mkS n9), .int .i64 n10, .int .i64 n11, .string (mkS n12)] 26))
    obtain ⟨wz, hm, hbz, hsz, hcv⟩ := zeros_world 0 (by decide) (w1.alloc (.cells #[.string (mkS n0), .int .i64 n1, .int .i64 n2, .int .i64 n3, .int .i64 n4, .int .i64 n5, .int .u8 (n6.toNat : Int), .string (mkS n7), .string (mkS n8), .string (mkS n9), .int .i64 n10, .int .i64 n11, .string (mkS n12)] 26))
    rw [show ((0 : Nat) : Int) = 0 from rfl, show (w1.alloc (.cells #[.string (mkS n0), .int .i64 n1, .int .i64 n2, .int .i64 n3, .int .i64 n4, .int .i64 n5, .int .u8 (n6.toNat : Int), .string (mkS n7), .string (mkS n8), .string (mkS n9), .int .i64 n10, .int .i64 n11, .string (mkS n12)] 26)).heap.size = w1.heap.size + 1 by simp] at hm
    rw [show (w1.alloc (.cells #[.string (mkS n0), .int .i64 n1, .int .i64 n2, .int .i64 n3, .int .i64 n4, .int .i64 n5, .int .u8 (n6.toNat : Int), .string (mkS n7), .string (mkS n8), .string (mkS n9), .int .i64 n10, .int .i64 n11, .string (mkS n12)] 26)).heap.size = w1.heap.size + 1 by simp] at hcv
    have G2 := Aside0.mk ((hbz.block _ (blk_lt G1)).trans G1)
    have B3 := Aside0.mk (below_next B2.out hbz)
    have HS1 := Aside0.mk hb1.size
    clear hb1 G1 B2 hbz hsz HMK
    have c0 : wz.cell? ⟨w1.heap.size, 0, none⟩ = some (.string (mkS n0)) := blk_cell G2.out 0
    have c1 : wz.cell? ⟨w1.heap.size, 1, none⟩ = some (.int .i64 n1) := blk_cell G2.out 1
    have c2 : wz.cell? ⟨w1.heap.size, 2, none⟩ = some (.int .i64 n2) := blk_cell G2.out 2
    have c3 : wz.cell? ⟨w1.heap.size, 3, none⟩ = some (.int .i64 n3) := blk_cell G2.out 3
    have c4 : wz.cell? ⟨w1.heap.size, 4, none⟩ = some (.int .i64 n4) := blk_cell G2.out 4
    have c5 : wz.cell? ⟨w1.heap.size, 5, none⟩ = some (.int .i64 n5) := blk_cell G2.out 5
    have c6 : wz.cell? ⟨w1.heap.size, 6, none⟩ = some (.int .u8 (n6.toNat : Int)) := blk_cell G2.out 6
    have c7 : wz.cell? ⟨w1.heap.size, 7, none⟩ = some (.string (mkS n7)) := blk_cell G2.out 7
    have c8 : wz.cell? ⟨w1.heap.size, 8, none⟩ = some (.string (mkS n8)) := blk_cell G2.out 8
    have c9 : wz.cell? ⟨w1.heap.size, 9, none⟩ = some (.string (mkS n9)) := blk_cell G2.out 9
    have c10 : wz.cell? ⟨w1.heap.size, 10, none⟩ = some (.int .i64 n10) := blk_cell G2.out 10
    have c11 : wz.cell? ⟨w1.heap.size, 11, none⟩ = some (.int .i64 n11) := blk_cell G2.out 11
    have c12 : wz.cell? ⟨w1.heap.size, 12, none⟩ = some (.string (mkS n12)) := blk_cell G2.out 12
    have f1 := blk_frozen G2.out 1
    have lz := blk_lt G2.out
    go_wp2_with fail
    have B4 := Aside0.mk (Below.setCell B3.out (p := ⟨w1.heap.size, 1, none⟩) HS1.out (.int .i64 (-1)))
    have g5 := blk_hit (i := 1) (v := .int .i64 (-1)) G2.out
    simp only [List.setIfInBounds_toArray, List.set_cons_zero, List.set_cons_succ] at g5
    have G5 := Aside0.mk g5
    clear g5
    refine (HMAY.out _ (HG.out.below B4.out)).mono ?_
    rintro e w5 ⟨rfl, hb5⟩
    have G6 := Aside0.mk ((hb5.block _ (blk_lt G5.out)).trans G5.out)
    have B5 := Aside0.mk (below_next B4.out hb5)
    clear hb5 c0 c1 c2 c3 c4 c5 c6 c7 c8 c9 c10 c11 c12 f1 lz
    have c0 : w5.cell? ⟨w1.heap.size, 0, none⟩ = some (.string (mkS n0)) := blk_cell G6.out 0
    have c1 : w5.cell? ⟨w1.heap.size, 1, none⟩ = some (.int .i64 (-1)) := blk_cell G6.out 1
    have c2 : w5.cell? ⟨w1.heap.size, 2, none⟩ = some (.int .i64 n2) := blk_cell G6.out 2
    have c3 : w5.cell? ⟨w1.heap.size, 3, none⟩ = some (.int .i64 n3) := blk_cell G6.out 3
    have c4 : w5.cell? ⟨w1.heap.size, 4, none⟩ = some (.int .i64 n4) := blk_cell G6.out 4
    have c5 : w5.cell? ⟨w1.heap.size, 5, none⟩ = some (.int .i64 n5) := blk_cell G6.out 5
    have c6 : w5.cell? ⟨w1.heap.size, 6, none⟩ = some (.int .u8 (n6.toNat : Int)) := blk_cell G6.out 6
    have c7 : w5.cell? ⟨w1.heap.size, 7, none⟩ = some (.string (mkS n7)) := blk_cell G6.out 7
    have c8 : w5.cell? ⟨w1.heap.size, 8, none⟩ = some (.string (mkS n8)) := blk_cell G6.out 8
    have c9 : w5.cell? ⟨w1.heap.size, 9, none⟩ = some (.string (mkS n9)) := blk_cell G6.out 9
    have c10 : w5.cell? ⟨w1.heap.size, 10, none⟩ = some (.int .i64 n10) := blk_cell G6.out 10
    have c11 : w5.cell? ⟨w1.heap.size, 11, none⟩ = some (.int .i64 n11) := blk_cell G6.out 11
    have c12 : w5.cell? ⟨w1.heap.size, 12, none⟩ = some (.string (mkS n12)) := blk_cell G6.out 12
    have lz := blk_lt G6.out
    go_wp2_with fail
    refine (HPUT.out _ (HG.out.below B5.out)).mono ?_
    rintro e w6 ⟨rfl, hb6⟩
    have B6 := Aside0.mk (below_next B5.out hb6)
    clear hb6
    go_wp2_with fail
    refine (awake_any _ (HG.out.below B6.out)).mono ?_
    rintro e w7 ⟨rfl, hb7⟩
    have B7 := Aside0.mk (below_next B6.out hb7)
    clear hb7
    go_wp2
    go_ret
    exact ⟨rfl, B7.out⟩
  · have HB := Aside0.mk (show mayH ⟨n0, n1, 72057594037927936, n3, n4, n5, n6, n7, n8, n9, n10, n11, n12⟩ = false from mayH_no_num (n := 72057594037927936) (by simp [numsL]) (by decide))
    have HF : Aside0 (Fits ⟨n0, n1, 72057594037927936, n3, n4, n5, n6, n7, n8, n9, n10, n11, n12⟩) := ⟨by have f := FF.out; exact ⟨⟨f.ints.mode, (by show (-9223372036854775808 : Int) ≤ 72057594037927936 ∧ (72057594037927936 : Int) ≤ 9223372036854775807; decide), f.ints.gid, f.ints.size, f.ints.mtime, f.ints.major, f.ints.minor⟩, f.name, f.link, f.uname, f.gname, f.pre⟩⟩
    have HMAY := Aside0.mk (fun W hGW => may_is ⟨n0, n1, 72057594037927936, n3, n4, n5, n6, n7, n8, n9, n10, n11, n12⟩ false HB.out W hGW HF.out)
    have HPUT := Aside0.mk (fun W hGW => put_is ⟨n0, n1, 72057594037927936, n3, n4, n5, n6, n7, n8, n9, n10, n11, n12⟩ [] (put_none HB.out) W hGW HF.out)
    simp only [hdCells] at HMAY HPUT
    clear FF T33 T132 T165 T2 T0
    go_enter Tryd.func4, Tryd.ntmps4
    go_wp2_with fail
    refine HMK.out.mono ?_
    rintro e w1 ⟨rfl, hb1⟩
    have G1 := heap_alloc_new w1 (.cells #[.string (mkS n0), .int .i64 n1, .int .i64 n2, .int .i64 n3, .int .i64 n4, .int .i64 n5, .int .u8 (n6.toNat : Int), .string (mkS n7), .string (mkS n8), .string (mkS n9), .int .i64 n10, .int .i64 n11, .string (mkS n12)] 26)
    have B2 := Aside0.mk (below_alloc hb1 (.cells #[.string (mkS n0), .int .i64 n1, .int .i64 n2, .int .i64 n3, .int .i64 n4, .int .i64 n5, .int .u8 (n6.toNat : Int), .string (mkS n7), .string (mkS n8), .string (mkS n9), .int .i64 n10, .int .i64 n11, .string (mkS n12)] 26))
    obtain ⟨wz, hm, hbz, hsz, hcv⟩ := zeros_world 0 (by decide) (w1.alloc (.cells #[.string (mkS n0), .int .i64 n1, .int .i64 n2, .int .i64 n3, .int .i64 n4, .int .i64 n5, .int .u8 (n6.toNat : Int), .string (mkS n7), .string (mkS n8), .string (mkS n9), .int .i64 n10, .int .i64 n11, .string (mkS n12)] 26))
    rw [show ((0 : Nat) : Int) = 0 from rfl, show (w1.alloc (.cells #[.string (mkS n0), .int .i64 n1, .int .i64 n2, .int .i64 n3, .int .i64 n4, .int .i64 n5, .int .u8 (n6.toNat : Int), .string (mkS n7), .string (mkS n8), .string (mkS n9), .int .i64 n10, .int .i64 n11, .string (mkS n12)] 26)).heap.size = w1.heap.size + 1 by simp] at hm
    rw [show (w1.alloc (.cells #[.string (mkS n0), .int .i64 n1, .int .i64 n2, .int .i64 n3, .int .i64 n4, .int .i64 n5, .int .u8 (n6.toNat : Int), .string (mkS n7), .string (mkS n8), .string (mkS n9), .int .i64 n10, .int .i64 n11, .string (mkS n12)] 26)).heap.size = w1.heap.size + 1 by simp] at hcv
    have G2 := Aside0.mk ((hbz.block _ (blk_lt G1)).trans G1)
    have B3 := Aside0.mk (below_next B2.out hbz)
    have HS1 := Aside0.mk hb1.size
    clear hb1 G1 B2 hbz hsz HMK
    have c0 : wz.cell? ⟨w1.heap.size, 0, none⟩ = some (.string (mkS n0)) := blk_cell G2.out 0
    have c1 : wz.cell? ⟨w1.heap.size, 1, none⟩ = some (.int .i64 n1) := blk_cell G2.out 1
    have c2 : wz.cell? ⟨w1.heap.size, 2, none⟩ = some (.int .i64 n2) := blk_cell G2.out 2
    have c3 : wz.cell? ⟨w1.heap.size, 3, none⟩ = some (.int .i64 n3) := blk_cell G2.out 3
    have c4 : wz.cell? ⟨w1.heap.size, 4, none⟩ = some (.int .i64 n4) := blk_cell G2.out 4
    have c5 : wz.cell? ⟨w1.heap.size, 5, none⟩ = some (.int .i64 n5) := blk_cell G2.out 5
    have c6 : wz.cell? ⟨w1.heap.size, 6, none⟩ = some (.int .u8 (n6.toNat : Int)) := blk_cell G2.out 6
    have c7 : wz.cell? ⟨w1.heap.size, 7, none⟩ = some (.string (mkS n7)) := blk_cell G2.out 7
    have c8 : wz.cell? ⟨w1.heap.size, 8, none⟩ = some (.string (mkS n8)) := blk_cell G2.out 8
    have c9 : wz.cell? ⟨w1.heap.size, 9, none⟩ = some (.string (mkS n9)) := blk_cell G2.out 9
    have c10 : wz.cell? ⟨w1.heap.size, 10, none⟩ = some (.int .i64 n10) := blk_cell G2.out 10
    have c11 : wz.cell? ⟨w1.heap.size, 11, none⟩ = some (.int .i64 n11) := blk_cell G2.out 11
    have c12 : wz.cell? ⟨w1.heap.size, 12, none⟩ = some (.string (mkS n12)) := blk_cell G2.out 12
    have f2 := blk_frozen G2.out 2
    have lz := blk_lt G2.out
    go_wp2_with fail
    have B4 := Aside0.mk (Below.setCell B3.out (p := ⟨w1.heap.size, 2, none⟩) HS1.out (.int .i64 72057594037927936))
    have g5 := blk_hit (i := 2) (v := .int .i64 72057594037927936) G2.out
    simp only [List.setIfInBounds_toArray, List.set_cons_zero, List.set_cons_succ] at g5
    have G5 := Aside0.mk g5
    clear g5
    refine (HMAY.out _ (HG.out.below B4.out)).mono ?_
    rintro e w5 ⟨rfl, hb5⟩
    have G6 := Aside0.mk ((hb5.block _ (blk_lt G5.out)).trans G5.out)
    have B5 := Aside0.mk (below_next B4.out hb5)
    clear hb5 c0 c1 c2 c3 c4 c5 c6 c7 c8 c9 c10 c11 c12 f2 lz
    have c0 : w5.cell? ⟨w1.heap.size, 0, none⟩ = some (.string (mkS n0)) := blk_cell G6.out 0
    have c1 : w5.cell? ⟨w1.heap.size, 1, none⟩ = some (.int .i64 n1) := blk_cell G6.out 1
    have c2 : w5.cell? ⟨w1.heap.size, 2, none⟩ = some (.int .i64 72057594037927936) := blk_cell G6.out 2
    have c3 : w5.cell? ⟨w1.heap.size, 3, none⟩ = some (.int .i64 n3) := blk_cell G6.out 3
    have c4 : w5.cell? ⟨w1.heap.size, 4, none⟩ = some (.int .i64 n4) := blk_cell G6.out 4
    have c5 : w5.cell? ⟨w1.heap.size, 5, none⟩ = some (.int .i64 n5) := blk_cell G6.out 5
    have c6 : w5.cell? ⟨w1.heap.size, 6, none⟩ = some (.int .u8 (n6.toNat : Int)) := blk_cell G6.out 6
    have c7 : w5.cell? ⟨w1.heap.size, 7, none⟩ = some (.string (mkS n7)) := blk_cell G6.out 7
    have c8 : w5.cell? ⟨w1.heap.size, 8, none⟩ = some (.string (mkS n8)) := blk_cell G6.out 8
    have c9 : w5.cell? ⟨w1.heap.size, 9, none⟩ = some (.string (mkS n9)) := blk_cell G6.out 9
    have c10 : w5.cell? ⟨w1.heap.size, 10, none⟩ = some (.int .i64 n10) := blk_cell G6.out 10
    have c11 : w5.cell? ⟨w1.heap.size, 11, none⟩ = some (.int .i64 n11) := blk_cell G6.out 11
    have c12 : w5.cell? ⟨w1.heap.size, 12, none⟩ = some (.string (mkS n12)) := blk_cell G6.out 12
    have lz := blk_lt G6.out
    go_wp2_with fail
    refine (HPUT.out _ (HG.out.below B5.out)).mono ?_
    rintro e w6 ⟨rfl, hb6⟩
    have B6 := Aside0.mk (below_next B5.out hb6)
    clear hb6
    go_wp2_with fail
    refine (awake_any _ (HG.out.below B6.out)).mono ?_
    rintro e w7 ⟨rfl, hb7⟩
    have B7 := Aside0.mk (below_next B6.out hb7)
    clear hb7
    go_wp2
    go_ret
    exact ⟨rfl, B7.out⟩
  · have HB := Aside0.mk (show mayH ⟨n0, n1, n2, n3, (-5), n5, n6, n7, n8, n9, n10, n11, n12⟩ = false from size_bad (by show (-5 : Int) < 0; decide))
    have HF : Aside0 (Fits ⟨n0, n1, n2, n3, (-5), n5, n6, n7, n8, n9, n10, n11, n12⟩) := ⟨by have f := FF.out; exact ⟨⟨f.ints.mode, f.ints.uid, f.ints.gid, (by show (-9223372036854775808 : Int) ≤ (-5) ∧ ((-5) : Int) ≤ 9223372036854775807; decide), f.ints.mtime, f.ints.major, f.ints.minor⟩, f.name, f.link, f.uname, f.gname, f.pre⟩⟩
    have HMAY := Aside0.mk (fun W hGW => may_is ⟨n0, n1, n2, n3, (-5), n5, n6, n7, n8, n9, n10, n11, n12⟩ false HB.out W hGW HF.out)
    have HPUT := Aside0.mk (fun W hGW => put_is ⟨n0, n1, n2, n3, (-5), n5, n6, n7, n8, n9, n10, n11, n12⟩ [] (put_none HB.out) W hGW HF.out)
    simp only [hdCells] at HMAY HPUT
    clear FF T33 T132 T165 T2 T0
    go_enter Tryd.func4, Tryd.ntmps4
    go_wp2_with fail
    refine HMK.out.mono ?_
    rintro e w1 ⟨rfl, hb1⟩
    have G1 := heap_alloc_new w1 (.cells #[.string (mkS n0), .int .i64 n1, .int .i64 n2, .int .i64 n3, .int .i64 n4, .int .i64 n5, .int .u8 (n6.toNat : Int), .string (mkS n7), .string (mkS n8), .string (mkS n9), .int .i64 n10, .int .i64 n11, .string (mkS n12)] 26)
    have B2 := Aside0.mk (below_alloc hb1 (.cells #[.string (mkS n0), .int .i64 n1, .int .i64 n2, .int .i64 n3, .int .i64 n4, .int .i64 n5, .int .u8 (n6.toNat : Int), .string (mkS n7), .string (mkS n8), .string (mkS n9), .int .i64 n10, .int .i64 n11, .string (mkS n12)] 26))
    obtain ⟨wz, hm, hbz, hsz, hcv⟩ := zeros_world 0 (by decide) (w1.alloc (.cells #[.string (mkS n0), .int .i64 n1, .int .i64 n2, .int .i64 n3, .int .i64 n4, .int .i64 n5, .int .u8 (n6.toNat : Int), .string (mkS n7), .string (mkS n8), .string (mkS n9), .int .i64 n10, .int .i64 n11, .string (mkS n12)] 26))
    rw [show ((0 : Nat) : Int) = 0 from rfl, show (w1.alloc (.cells #[.string (mkS n0), .int .i64 n1, .int .i64 n2, .int .i64 n3, .int .i64 n4, .int .i64 n5, .int .u8 (n6.toNat : Int), .string (mkS n7), .string (mkS n8), .string (mkS n9), .int .i64 n10, .int .i64 n11, .string (mkS n12)] 26)).heap.size = w1.heap.size + 1 by simp] at hm
    rw [show (w1.alloc (.cells #[.string (mkS n0), .int .i64 n1, .int .i64 n2, .int .i64 n3, .int .i64 n4, .int .i64 n5, .int .u8 (n6.toNat : Int), .string (mkS n7), .string (mkS n8), .string (mkS n9), .int .i64 n10, .int .i64 n11, .string (mkS n12)] 26)).heap.size = w1.heap.size + 1 by simp] at hcv
    have G2 := Aside0.mk ((hbz.block _ (blk_lt G1)).trans G1)
    have B3 := Aside0.mk (below_next B2.out hbz)
    have HS1 := Aside0.mk hb1.size
    clear hb1 G1 B2 hbz hsz HMK
    have c0 : wz.cell? ⟨w1.heap.size, 0, none⟩ = some (.string (mkS n0)) := blk_cell G2.out 0
    have c1 : wz.cell? ⟨w1.heap.size, 1, none⟩ = some (.int .i64 n1) := blk_cell G2.out 1
    have c2 : wz.cell? ⟨w1.heap.size, 2, none⟩ = some (.int .i64 n2) := blk_cell G2.out 2
    have c3 : wz.cell? ⟨w1.heap.size, 3, none⟩ = some (.int .i64 n3) := blk_cell G2.out 3
    have c4 : wz.cell? ⟨w1.heap.size, 4, none⟩ = some (.int .i64 n4) := blk_cell G2.out 4
    have c5 : wz.cell? ⟨w1.heap.size, 5, none⟩ = some (.int .i64 n5) := blk_cell G2.out 5
    have c6 : wz.cell? ⟨w1.heap.size, 6, none⟩ = some (.int .u8 (n6.toNat : Int)) := blk_cell G2.out 6
    have c7 : wz.cell? ⟨w1.heap.size, 7, none⟩ = some (.string (mkS n7)) := blk_cell G2.out 7
    have c8 : wz.cell? ⟨w1.heap.size, 8, none⟩ = some (.string (mkS n8)) := blk_cell G2.out 8
    have c9 : wz.cell? ⟨w1.heap.size, 9, none⟩ = some (.string (mkS n9)) := blk_cell G2.out 9
    have c10 : wz.cell? ⟨w1.heap.size, 10, none⟩ = some (.int .i64 n10) := blk_cell G2.out 10
    have c11 : wz.cell? ⟨w1.heap.size, 11, none⟩ = some (.int .i64 n11) := blk_cell G2.out 11
    have c12 : wz.cell? ⟨w1.heap.size, 12, none⟩ = some (.string (mkS n12)) := blk_cell G2.out 12
    have f4 := blk_frozen G2.out 4
    have lz := blk_lt G2.out
    go_wp2_with fail
    have B4 := Aside0.mk (Below.setCell B3.out (p := ⟨w1.heap.size, 4, none⟩) HS1.out (.int .i64 (-5)))
    have g5 := blk_hit (i := 4) (v := .int .i64 (-5)) G2.out
    simp only [List.setIfInBounds_toArray, List.set_cons_zero, List.set_cons_succ] at g5
    have G5 := Aside0.mk g5
    clear g5
    refine (HMAY.out _ (HG.out.below B4.out)).mono ?_
    rintro e w5 ⟨rfl, hb5⟩
    have G6 := Aside0.mk ((hb5.block _ (blk_lt G5.out)).trans G5.out)
    have B5 := Aside0.mk (below_next B4.out hb5)
    clear hb5 c0 c1 c2 c3 c4 c5 c6 c7 c8 c9 c10 c11 c12 f4 lz
    have c0 : w5.cell? ⟨w1.heap.size, 0, none⟩ = some (.string (mkS n0)) := blk_cell G6.out 0
    have c1 : w5.cell? ⟨w1.heap.size, 1, none⟩ = some (.int .i64 n1) := blk_cell G6.out 1
    have c2 : w5.cell? ⟨w1.heap.size, 2, none⟩ = some (.int .i64 n2) := blk_cell G6.out 2
    have c3 : w5.cell? ⟨w1.heap.size, 3, none⟩ = some (.int .i64 n3) := blk_cell G6.out 3
    have c4 : w5.cell? ⟨w1.heap.size, 4, none⟩ = some (.int .i64 (-5)) := blk_cell G6.out 4
    have c5 : w5.cell? ⟨w1.heap.size, 5, none⟩ = some (.int .i64 n5) := blk_cell G6.out 5
    have c6 : w5.cell? ⟨w1.heap.size, 6, none⟩ = some (.int .u8 (n6.toNat : Int)) := blk_cell G6.out 6
    have c7 : w5.cell? ⟨w1.heap.size, 7, none⟩ = some (.string (mkS n7)) := blk_cell G6.out 7
    have c8 : w5.cell? ⟨w1.heap.size, 8, none⟩ = some (.string (mkS n8)) := blk_cell G6.out 8
    have c9 : w5.cell? ⟨w1.heap.size, 9, none⟩ = some (.string (mkS n9)) := blk_cell G6.out 9
    have c10 : w5.cell? ⟨w1.heap.size, 10, none⟩ = some (.int .i64 n10) := blk_cell G6.out 10
    have c11 : w5.cell? ⟨w1.heap.size, 11, none⟩ = some (.int .i64 n11) := blk_cell G6.out 11
    have c12 : w5.cell? ⟨w1.heap.size, 12, none⟩ = some (.string (mkS n12)) := blk_cell G6.out 12
    have lz := blk_lt G6.out
    go_wp2_with fail
    refine (HPUT.out _ (HG.out.below B5.out)).mono ?_
    rintro e w6 ⟨rfl, hb6⟩
    have B6 := Aside0.mk (below_next B5.out hb6)
    clear hb6
    go_wp2_with fail
    refine (awake_any _ (HG.out.below B6.out)).mono ?_
    rintro e w7 ⟨rfl, hb7⟩
    have B7 := Aside0.mk (below_next B6.out hb7)
    clear hb7
    go_wp2
    go_ret
    exact ⟨rfl, B7.out⟩
  · have HB := Aside0.mk (show mayH ⟨n0, n1, n2, n3, n4, n5, n6, n7, n8, n9, n10, (-1), n12⟩ = false from mayH_no_num (n := (-1)) (by simp [numsL]) (by decide))
    have HF : Aside0 (Fits ⟨n0, n1, n2, n3, n4, n5, n6, n7, n8, n9, n10, (-1), n12⟩) := ⟨by have f := FF.out; exact ⟨⟨f.ints.mode, f.ints.uid, f.ints.gid, f.ints.size, f.ints.mtime, f.ints.major, (by show (-9223372036854775808 : Int) ≤ (-1) ∧ ((-1) : Int) ≤ 9223372036854775807; decide)⟩, f.name, f.link, f.uname, f.gname, f.pre⟩⟩
    have HMAY := Aside0.mk (fun W hGW => may_is ⟨n0, n1, n2, n3, n4, n5, n6, n7, n8, n9, n10, (-1), n12⟩ false HB.out W hGW HF.out)
    have HPUT := Aside0.mk (fun W hGW => put_is ⟨n0, n1, n2, n3, n4, n5, n6, n7, n8, n9, n10, (-1), n12⟩ [] (put_none HB.out) W hGW HF.out)
    simp only [hdCells] at HMAY HPUT
    clear FF T33 T132 T165 T2 T0
    go_enter Tryd.func4, Tryd.ntmps4
    go_wp2_with fail
    refine HMK.out.mono ?_
    rintro e w1 ⟨rfl, hb1⟩
    have G1 := heap_alloc_new w1 (.cells #[.string (mkS n0), .int .i64 n1, .int .i64 n2, .int .i64 n3, .int .i64 n4, .int .i64 n5, .int .u8 (n6.toNat : Int), .string (mkS n7), .string (mkS n8), .string (mkS n9), .int .i64 n10, .int .i64 n11, .string (mkS n12)] 26)
    have B2 := Aside0.mk (below_alloc hb1 (.cells #[.string (mkS n0), .int .i64 n1, .int .i64 n2, .int .i64 n3, .int .i64 n4, .int .i64 n5, .int .u8 (n6.toNat : Int), .string (mkS n7), .string (mkS n8), .string (mkS n9), .int .i64 n10, .int .i64 n11, .string (mkS n12)] 26))
    obtain ⟨wz, hm, hbz, hsz, hcv⟩ := zeros_world 0 (by decide) (w1.alloc (.cells #[.string (mkS n0), .int .i64 n1, .int .i64 n2, .int .i64 n3, .int .i64 n4, .int .i64 n5, .int .u8 (n6.toNat : Int), .string (mkS n7), .string (mkS n8), .string (mkS n9), .int .i64 n10, .int .i64 n11, .string (mkS n12)] 26))
    rw [show ((0 : Nat) : Int) = 0 from rfl, show (w1.alloc (.cells #[.string (mkS n0), .int .i64 n1, .int .i64 n2, .int .i64 n3, .int .i64 n4, .int .i64 n5, .int .u8 (n6.toNat : Int), .string (mkS n7), .string (mkS n8), .string (mkS n9), .int .i64 n10, .int .i64 n11, .string (mkS n12)] 26)).heap.size = w1.heap.size + 1 by simp] at hm
    rw [show (w1.alloc (.cells #[.string (mkS n0), .int .i64 n1, .int .i64 n2, .int .i64 n3, .int .i64 n4, .int .i64 n5, .int .u8 (n6.toNat : Int), .string (mkS n7), .string (mkS n8), .string (mkS n9), .int .i64 n10, .int .i64 n11, .string (mkS n12)] 26)).heap.size = w1.heap.size + 1 by simp] at hcv
    have G2 := Aside0.mk ((hbz.block _ (blk_lt G1)).trans G1)
    have B3 := Aside0.mk (below_next B2.out hbz)
    have HS1 := Aside0.mk hb1.size
    clear hb1 G1 B2 hbz hsz HMK
    have c0 : wz.cell? ⟨w1.heap.size, 0, none⟩ = some (.string (mkS n0)) := blk_cell G2.out 0
    have c1 : wz.cell? ⟨w1.heap.size, 1, none⟩ = some (.int .i64 n1) := blk_cell G2.out 1
    have c2 : wz.cell? ⟨w1.heap.size, 2, none⟩ = some (.int .i64 n2) := blk_cell G2.out 2
    have c3 : wz.cell? ⟨w1.heap.size, 3, none⟩ = some (.int .i64 n3) := blk_cell G2.out 3
    have c4 : wz.cell? ⟨w1.heap.size, 4, none⟩ = some (.int .i64 n4) := blk_cell G2.out 4
    have c5 : wz.cell? ⟨w1.heap.size, 5, none⟩ = some (.int .i64 n5) := blk_cell G2.out 5
    have c6 : wz.cell? ⟨w1.heap.size, 6, none⟩ = some (.int .u8 (n6.toNat : Int)) := blk_cell G2.out 6
    have c7 : wz.cell? ⟨w1.heap.size, 7, none⟩ = some (.string (mkS n7)) := blk_cell G2.out 7
    have c8 : wz.cell? ⟨w1.heap.size, 8, none⟩ = some (.string (mkS n8)) := blk_cell G2.out 8
    have c9 : wz.cell? ⟨w1.heap.size, 9, none⟩ = some (.string (mkS n9)) := blk_cell G2.out 9
    have c10 : wz.cell? ⟨w1.heap.size, 10, none⟩ = some (.int .i64 n10) := blk_cell G2.out 10
    have c11 : wz.cell? ⟨w1.heap.size, 11, none⟩ = some (.int .i64 n11) := blk_cell G2.out 11
    have c12 : wz.cell? ⟨w1.heap.size, 12, none⟩ = some (.string (mkS n12)) := blk_cell G2.out 12
    have f11 := blk_frozen G2.out 11
    have lz := blk_lt G2.out
    go_wp2_with fail
    have B4 := Aside0.mk (Below.setCell B3.out (p := ⟨w1.heap.size, 11, none⟩) HS1.out (.int .i64 (-1)))
    have g5 := blk_hit (i := 11) (v := .int .i64 (-1)) G2.out
    simp only [List.setIfInBounds_toArray, List.set_cons_zero, List.set_cons_succ] at g5
    have G5 := Aside0.mk g5
    clear g5
    refine (HMAY.out _ (HG.out.below B4.out)).mono ?_
    rintro e w5 ⟨rfl, hb5⟩
    have G6 := Aside0.mk ((hb5.block _ (blk_lt G5.out)).trans G5.out)
    have B5 := Aside0.mk (below_next B4.out hb5)
    clear hb5 c0 c1 c2 c3 c4 c5 c6 c7 c8 c9 c10 c11 c12 f11 lz
    have c0 : w5.cell? ⟨w1.heap.size, 0, none⟩ = some (.string (mkS n0)) := blk_cell G6.out 0
    have c1 : w5.cell? ⟨w1.heap.size, 1, none⟩ = some (.int .i64 n1) := blk_cell G6.out 1
    have c2 : w5.cell? ⟨w1.heap.size, 2, none⟩ = some (.int .i64 n2) := blk_cell G6.out 2
    have c3 : w5.cell? ⟨w1.heap.size, 3, none⟩ = some (.int .i64 n3) := blk_cell G6.out 3
    have c4 : w5.cell? ⟨w1.heap.size, 4, none⟩ = some (.int .i64 n4) := blk_cell G6.out 4
    have c5 : w5.cell? ⟨w1.heap.size, 5, none⟩ = some (.int .i64 n5) := blk_cell G6.out 5
    have c6 : w5.cell? ⟨w1.heap.size, 6, none⟩ = some (.int .u8 (n6.toNat : Int)) := blk_cell G6.out 6
    have c7 : w5.cell? ⟨w1.heap.size, 7, none⟩ = some (.string (mkS n7)) := blk_cell G6.out 7
    have c8 : w5.cell? ⟨w1.heap.size, 8, none⟩ = some (.string (mkS n8)) := blk_cell G6.out 8
    have c9 : w5.cell? ⟨w1.heap.size, 9, none⟩ = some (.string (mkS n9)) := blk_cell G6.out 9
    have c10 : w5.cell? ⟨w1.heap.size, 10, none⟩ = some (.int .i64 n10) := blk_cell G6.out 10
    have c11 : w5.cell? ⟨w1.heap.size, 11, none⟩ = some (.int .i64 (-1)) := blk_cell G6.out 11
    have c12 : w5.cell? ⟨w1.heap.size, 12, none⟩ = some (.string (mkS n12)) := blk_cell G6.out 12
    have lz := blk_lt G6.out
    go_wp2_with fail
    refine (HPUT.out _ (HG.out.below B5.out)).mono ?_
    rintro e w6 ⟨rfl, hb6⟩
    have B6 := Aside0.mk (below_next B5.out hb6)
    clear hb6
    go_wp2_with fail
    refine (awake_any _ (HG.out.below B6.out)).mono ?_
    rintro e w7 ⟨rfl, hb7⟩
    have B7 := Aside0.mk (below_next B6.out hb7)
    clear hb7
    go_wp2
    go_ret
    exact ⟨rfl, B7.out⟩
theorem headRefuses_walk (a b : ByteArray) (A : Option Addr) (len cap : Nat) (zs : List Int) (t wh : Int) (w : World) (hG : Good w) (ha : a.size ≤ 140737488351232) (hb : b.size ≤ 140737488351232)
    (hz : (A = none ∧ len = 0 ∧ cap = 0 ∧ zs = []) ∨ ∃ x, A = some x ∧ len ≤ cap ∧ cap ≤ maxLen ∧ zs.length = cap ∧ (∀ i, i < zs.length → w.cell? (x.add i) = some (.int .u32 (zs.getD i 0))) ∧ ∀ n ∈ zs, (Lit.int .u32 n).wf = true)
    (hy : len * 4 ≤ 140737488351232) (ht : 0 ≤ t ∧ t ≤ 255) (hwh : 0 ≤ wh ∧ wh ≤ 255) :
    Calls Tryd.prog 4 #[.string a, .string b, .slice A len cap, .int .u8 t, .int .u8 wh] w fun e w' => e = .returned (.bool true) ∧ Below w.heap.size w w' := by
  obtain ⟨a, rfl⟩ := exists_mkS a
  obtain ⟨b, rfl⟩ := exists_mkS b
  obtain ⟨tt, rfl⟩ : ∃ x : UInt8, (x.toNat : Int) = t := ⟨UInt8.ofNat t.toNat, by simp; omega⟩
  obtain ⟨n, rfl⟩ : ∃ n : Nat, (n : Int) = wh := ⟨wh.toNat, by omega⟩
  by_cases h : 300 < a.length ∨ 300 < b.length
  · exact headRefuses_far a b A len cap tt _ w hG h
  · exact headRefuses_main a b A len cap zs tt n w hG (nums_of_row hz hy) (by omega) (by omega) (by omega)
end Go.Proofs.YtpmiddhdgidimaaDoor
