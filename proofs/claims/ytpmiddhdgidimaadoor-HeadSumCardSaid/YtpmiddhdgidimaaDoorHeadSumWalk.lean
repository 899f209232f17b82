/- HeadSum: the walk. -/
import Derived.Test.YtpmiddhdgidimaaDoorHeadBack
import Derived.Test.YtpmiddhdgidimaaDoorHeadSumPlain
import Derived.Laws.BitsAllLaws
set_option linter.unusedVariables false
set_option linter.unusedSimpArgs false
namespace Go.Proofs.YtpmiddhdgidimaaDoor
open Go.RowKit Go.Proofs.YtpmiddhdgidimaaDoorW.PrintWords
set_option maxHeartbeats 4000000 in
set_option maxRecDepth 100000 in
theorem headSum_far (a b : List UInt8) (A : Option Addr) (len cap : Nat) (t : UInt8) (mo : Int) (w : World) (hG : Good w) (hg : 300 < a.length ∨ 300 < b.length) :
    Calls Tryd.prog 6 #[.string (mkS a), .string (mkS b), .slice A len cap, .int .u8 (t.toNat : Int), .int .u8 mo] w fun e w' => e = .returned (.bool true) ∧ Below w.heap.size w w' := by
  have HG := Aside0.mk hG
  clear hG
  have hq : (300 : Int) < a.length ∨ (¬ (300 : Int) < a.length ∧ (300 : Int) < b.length) := by omega
  clear hg
  rcases hq with q1 | ⟨q1, q2⟩
  all_goals
    go_enter Tryd.func6, Tryd.ntmps6
    go_wp2_with (go_at_call 8; refine (awake_any _ HG.out).mono ?_; rintro e w1 ⟨rfl, hb1⟩)
    go_ret
    exact ⟨rfl, hb1⟩
def SumDone (w : World) (e : Ending) (w' : World) : Prop := e = .returned (.bool true) ∧ Below w.heap.size w w'
set_option maxHeartbeats 8000000 in
set_option maxRecDepth 100000 in
theorem headSum_main (a b : List UInt8) (A : Option Addr) (len cap : Nat) (zs : List Int) (t : UInt8) (mo : Nat) (w : World) (hG : Good w) (hN : NumsAt w A len zs) (h1 : a.length ≤ 300) (h2 : b.length ≤ 300) (hmo : mo ≤ 255) :
    Calls Tryd.prog 6 #[.string (mkS a), .string (mkS b), .slice A len cap, .int .u8 (t.toNat : Int), .int .u8 (mo : Int)] w (SumDone w) := by
  have q1 : ¬ (300 : Int) < a.length := by omega
  have q2 : ¬ (300 : Int) < b.length := by omega
  have HG := Aside0.mk hG
  have hnu := numK_nums hN
  have HMK := Aside0.mk (make_any a b A len cap zs t w hN (by omega) (by omega))
  obtain ⟨H, hH⟩ : ∃ H, makeT a b (numK len zs) t = H := ⟨_, rfl⟩
  have m : MayH H := hH ▸ make_may a b _ t hnu
  have ff : Fits H := hH ▸ make_fits a b _ t hnu
  rw [hH] at HMK
  clear hH hnu hG hN
  obtain ⟨B, hB⟩ : ∃ B, blockT H = B := ⟨_, rfl⟩
  obtain ⟨N, hNN⟩ : ∃ N, sumN (blockA H) (blockB H) = N := ⟨_, rfl⟩
  have hBl : B.length = 512 := by rw [← hB]; exact blockT_length m
  have HPUT := Aside0.mk (fun W hGW => put_is H B (by rw [put_of m, hB]) W hGW ff)
  have HALL := Aside0.mk (show nA B 512 = N by rw [← hB, ← hNN]; exact nA_all m)
  have HLE := Aside0.mk (nA_le B hBl)
  have HN6 := Aside0.mk (show N < 262144 by rw [← hNN]; exact sum_lt m)
  have HDIG := Aside0.mk (fun (j : Nat) (hj : j < 6) => show B.getD (148 + j) 0 = UInt8.ofNat (48 + N / 8 ^ (5 - j) % 8) by rw [← hB, ← hNN]; exact sum_digit m j hj)
  have HEND := Aside0.mk (show B.getD 154 0 = 0 ∧ B.getD 155 0 = 32 by rw [← hB]; exact sum_end m)
  have HTURN := Aside0.mk (fun (q : Nat) (v : UInt8) (hq : q < 512) (hv : v ≠ B.getD q 0) => show getT (B.set q v) = .error 4 from by rw [← hB] at hv ⊢; exact get_turned m q v hq hv)
  have hPB : mayH ⟨[], 0, 0, 0, 0, 0, 0, [], [], [], 0, 0, [97, 0]⟩ = false := pre_bad (by decide)
  have HMB := Aside0.mk (fun W hGW => show Calls Tryd.prog 13 #[.agg #[.string ⟨#[]⟩, .int .i64 0, .int .i64 0, .int .i64 0, .int .i64 0, .int .i64 0, .int .u8 0, .string ⟨#[]⟩, .string ⟨#[]⟩, .string ⟨#[]⟩, .int .i64 0, .int .i64 0, .string ⟨#[97, 0]⟩]] W fun e w' => e = .returned (.bool false) ∧ Below W.heap.size W w' from
    may_is ⟨[], 0, 0, 0, 0, 0, 0, [], [], [], 0, 0, [97, 0]⟩ false hPB W hGW ⟨by constructor <;> decide, by decide, by decide, by decide, by decide, by decide⟩)
  have HE4 := Aside0.mk (fun W => err_any 4 (by decide) W)
  have hBl' : (B.length : Int) = 512 := by omega
  obtain ⟨R, hR⟩ : ∃ R, R = SumDone w := ⟨_, rfl⟩
  have HD : Aside0 (∀ e w', e = .returned (.bool true) → Below w.heap.size w w' → R e w') := ⟨fun e w' h1 h2 => hR ▸ ⟨h1, h2⟩⟩
  rw [← hR]
  clear hR m ff hB hNN hPB
  obtain ⟨n0, n1, n2, n3, n4, n5, n6, n7, n8, n9, n10, n11, n12⟩ := H
  simp only [hdCells] at HMK HPUT
  go_enter Tryd.func6, Tryd.ntmps6
  go_wp2_with fail
  refine HMK.out.mono ?_
  rintro e w1 ⟨rfl, hb1⟩
  have B1 := Aside0.mk hb1
  clear hb1 HMK
  go_wp2_with fail
  refine (HPUT.out _ (HG.out.below B1.out)).mono ?_
  rintro e w2 ⟨rfl, hb2⟩
  have B2 := Aside0.mk (below_next B1.out hb2)
  clear hb2 HPUT B1
  go_wp2_with fail
  go_loopw [12, 13] (fun nv iv wr => ∃ i : Nat, i ≤ 512 ∧ nv = .int .i64 (nA B i : Int) ∧ iv = .int .i64 (i : Int) ∧ wr = w2) (fun _ iv _ => 512 - (intOf iv).toNat)
  case atStart => exact ⟨0, by omega, by rw [nA_zero]; rfl, rfl, rfl⟩
  case round =>
    obtain ⟨i, hi, rfl, rfl, rfl⟩ := hrel
    by_cases hlt : i < 512
    · have u1 : (i : Int) < 512 := by omega
      have hle := HLE.out i hi
      have hb0 : ∀ h, (mkS B)[i]'h = B.getD i 0 := fun h => by
        rw [List.getD_eq_getElem?_getD, List.getElem?_eq_getElem (by omega)]
        simp [mkS, ByteArray.getElem_eq_getElem_data]
      have hlow := fun h => nA_low B i h hBl
      have hmid := nA_mid B i
      have hhigh := fun h => nA_high B i h hlt hBl
      have hbl := (B.getD i 0).toNat_lt
      generalize B.getD i 0 = b at *
      generalize nA B i = n at *
      have w1' : IntKind.i64.wrap ((n : Int) + 32) = (n : Int) + 32 := by rw [IntKind.wrap_i64]; omega
      have w2' : IntKind.i64.wrap ((n : Int) + b.toNat) = (n : Int) + b.toNat := by rw [IntKind.wrap_i64]; omega
      have w3' : IntKind.i64.wrap (b.toNat : Int) = b.toNat := by rw [IntKind.wrap_i64]; omega
      have hcs : (¬ (148 : Int) ≤ i) ∨ ((148 : Int) ≤ i ∧ (i : Int) < 156) ∨ ((148 : Int) ≤ i ∧ ¬ (i : Int) < 156) := by omega
      rcases hcs with z1 | ⟨z1, z2⟩ | ⟨z1, z2⟩
      · have hx := hlow (by omega)
        have HX := Aside0.mk hx
        clear hx hlow hmid hhigh hle hi hlt
        go_wp2_with fail
        exact ⟨⟨i + 1, by omega, by rw [HX.out]; go_num, by go_num, trivial⟩, by simp [intOf]; omega⟩
      · have hx := hmid (by omega) (by omega)
        have HX := Aside0.mk hx
        clear hx hlow hmid hhigh hle hi hlt
        go_wp2_with fail
        exact ⟨⟨i + 1, by omega, by rw [HX.out]; go_num, by go_num, trivial⟩, by simp [intOf]; omega⟩
      · have hx := hhigh (by omega)
        have HX := Aside0.mk hx
        clear hx hlow hmid hhigh hle hi hlt
        go_wp2_with fail
        exact ⟨⟨i + 1, by omega, by rw [HX.out]; go_num, by go_num, trivial⟩, by simp [intOf]; omega⟩
    · have u1 : ¬ (i : Int) < 512 := by omega
      obtain rfl : i = 512 := by omega
      rw [HALL.out]
      clear hlt hi HALL HLE
      have HDG := Aside0.mk (fun (i : Nat) (h1 : 148 ≤ i) (h2 : i < 154) => show B.getD i 0 = UInt8.ofNat (48 + N / 8 ^ (153 - i) % 8) ∧ N / 8 ^ (154 - i) * 8 + N / 8 ^ (153 - i) % 8 = N / 8 ^ (154 - (i + 1)) by
        have a1 := HDIG.out (i - 148) (by omega)
        have a2 := kA_step N (i - 148) (by omega)
        rw [show 148 + (i - 148) = i by omega, show 5 - (i - 148) = 153 - i by omega] at a1
        rw [show 5 - (i - 148) = 153 - i by omega, show 6 - (i - 148) = 154 - i by omega, show 6 - (i - 148 + 1) = 154 - (i + 1) by omega] at a2
        exact ⟨a1, a2⟩)
      have HKL := Aside0.mk (fun (j : Nat) => show N / 8 ^ j ≤ 262144 from Nat.le_trans (Nat.div_le_self _ _) (Nat.le_of_lt HN6.out))
      have HK0 := Aside0.mk (show N / 8 ^ (154 - 148) = 0 from Nat.div_eq_of_lt HN6.out)
      go_wp2_with fail
      go_loopw [14, 15] (fun kv iv wq => ∃ i : Nat, 148 ≤ i ∧ i ≤ 154 ∧ kv = .int .i64 ((N / 8 ^ (154 - i) : Nat) : Int) ∧ iv = .int .i64 (i : Int) ∧ wq = wr) (fun _ iv _ => 154 - (intOf iv).toNat)
      case atStart => exact ⟨148, by omega, by omega, by rw [HK0.out]; rfl, rfl, rfl⟩
      case round =>
        obtain ⟨i, hi1, hi2, rfl, rfl, rfl⟩ := hrel
        by_cases hlt : i < 154
        · have u2 : (i : Int) < 154 := by omega
          obtain ⟨hd1, hd2⟩ := HDG.out i hi1 hlt
          have hkl := HKL.out (154 - i)
          have hb0 : ∀ h, (mkS B)[i]'h = B.getD i 0 := fun h => by
            rw [List.getD_eq_getElem?_getD, List.getElem?_eq_getElem (by omega)]
            simp [mkS, ByteArray.getElem_eq_getElem_data]
          obtain ⟨d, hd⟩ : ∃ d, N / 8 ^ (153 - i) % 8 = d := ⟨_, rfl⟩
          have hd8 : d < 8 := by omega
          rw [hd] at hd1 hd2
          obtain ⟨b, hb⟩ : ∃ b : UInt8, UInt8.ofNat (48 + d) = b := ⟨_, rfl⟩
          have hbn : (b.toNat : Int) = 48 + d := by rw [← hb, UInt8.toNat_ofNat']; omega
          rw [hb] at hd1
          rw [hd1] at hb0
          have HX := Aside0.mk hd2
          clear hd1 hd hb hd2
          generalize N / 8 ^ (154 - i) = K at *
          have v1 : IntKind.u8.wrap (48 + (d : Int) - 48) = d := by
            have : d = 0 ∨ d = 1 ∨ d = 2 ∨ d = 3 ∨ d = 4 ∨ d = 5 ∨ d = 6 ∨ d = 7 := by omega
            rcases this with rfl | rfl | rfl | rfl | rfl | rfl | rfl | rfl <;> rfl
          have v2 : IntKind.i64.wrap (d : Int) = d := by rw [IntKind.wrap_i64]; omega
          have v3 : IntKind.i64.wrap ((K : Int) * 8) = (K : Int) * 8 := by rw [IntKind.wrap_i64]; omega
          have v4 : IntKind.i64.wrap ((K : Int) * 8 + d) = (K : Int) * 8 + d := by rw [IntKind.wrap_i64]; omega
          go_wp2_with fail
          exact ⟨⟨i + 1, by omega, by omega, by rw [← HX.out]; go_num, by go_num, trivial⟩, by simp [intOf]; omega⟩
        · obtain rfl : i = 154 := by omega
          rw [show N / 8 ^ (154 - 154) = N by rw [Nat.sub_self, Nat.pow_zero, Nat.div_one]]
          clear hlt hi1 hi2
          obtain ⟨w7, cap7, hcv, hb7, hz7, hB7⟩ := conv_world (P := Tryd.prog) wr 9 34 5 (mkS B) Tryd.underlying9 Tryd.underlying34 Tryd.underlying5
          rw [data_mkS] at hB7
          rw [size_mkS, hBl] at hcv
          have hd1 := (HDG.out 153 (by omega) (by omega)).1
          rw [show 153 - 153 = 0 from rfl, Nat.pow_zero, Nat.div_one] at hd1
          obtain ⟨d, hd⟩ : ∃ d, N % 8 = d := ⟨_, rfl⟩
          have hd8 : d < 8 := by omega
          rw [hd] at hd1
          obtain ⟨r, hr⟩ : ∃ r, mo % 7 = r := ⟨_, rfl⟩
          have hr7 : r < 7 := by omega
          obtain ⟨x, hx⟩ : ∃ x, (d + 1 + r) % 8 = x := ⟨_, rfl⟩
          have hx8 : x < 8 := by omega
          have hne : x ≠ d := by omega
          obtain ⟨b, hb⟩ : ∃ b : UInt8, UInt8.ofNat (48 + d) = b := ⟨_, rfl⟩
          have hbn : (b.toNat : Int) = 48 + d := by rw [← hb, UInt8.toNat_ofNat']; omega
          obtain ⟨v, hv⟩ : ∃ v : UInt8, UInt8.ofNat (48 + x) = v := ⟨_, rfl⟩
          have hvn : (v.toNat : Int) = 48 + x := by rw [← hv, UInt8.toNat_ofNat']; omega
          rw [hb] at hd1
          have hqs : 153 < B.length := by omega
          have hci := hB7.cell 153 hqs
          have hfi := hB7.free 153 hqs
          rw [hd1, hbn] at hci
          have hB8 := hB7.set 153 hqs v
          have hT4 := HTURN.out 153 v (by decide) (by rw [hd1]; intro e; rw [e] at hvn; omega)
          rw [hvn] at hB8
          obtain ⟨T, hT⟩ : ∃ T, B.set 153 v = T := ⟨_, rfl⟩
          rw [hT] at hB8 hT4
          have htl : T.length = 512 := by rw [← hT, List.length_set, hBl]
          have hbk := hB8.back (P := Tryd.prog) 34 9 5 cap7 512 htl.symm Tryd.underlying34 Tryd.underlying5 Tryd.underlying9
          have B9 := Aside0.mk (below_next B2.out (hb7.setCell (p := ⟨wr.heap.size, 153, none⟩) (Nat.le_refl _) (.int .u8 (48 + (x : Int)))))
          have HGT := Aside0.mk (fun W hGW => get_is T (.error 4) hT4 (by omega) W hGW)
          simp only [gotH, hdCells, hd0] at HGT
          have l7 : wr.heap.size < w7.heap.size := by omega
          have v1 : IntKind.u8.wrap (48 + (d : Int) - 48) = d := by
            have : d = 0 ∨ d = 1 ∨ d = 2 ∨ d = 3 ∨ d = 4 ∨ d = 5 ∨ d = 6 ∨ d = 7 := by omega
            rcases this with rfl | rfl | rfl | rfl | rfl | rfl | rfl | rfl <;> rfl
          have v2 : IntKind.u8.wrap ((d : Int) + 1) = d + 1 := by
            have : d = 0 ∨ d = 1 ∨ d = 2 ∨ d = 3 ∨ d = 4 ∨ d = 5 ∨ d = 6 ∨ d = 7 := by omega
            rcases this with rfl | rfl | rfl | rfl | rfl | rfl | rfl | rfl <;> rfl
          have v3 : IntKind.u8.wrap ((d : Int) + 1 + r) = d + 1 + r := by rw [IntKind.wrap_u8]; omega
          have v4 : IntKind.u8.wrap (48 + (x : Int)) = 48 + x := by rw [IntKind.wrap_u8]; omega
          have r1 : Int.tmod (mo : Int) 7 = r := by rw [Int.tmod_eq_emod_of_nonneg (by omega)]; omega
          have r2 : (mo : Int) % 7 = r := by omega
          have r3 : Int.tmod ((d : Int) + 1 + r) 8 = x := by rw [Int.tmod_eq_emod_of_nonneg (by omega)]; omega
          have r4 : ((d : Int) + 1 + r) % 8 = x := by omega
          obtain ⟨e54, e55⟩ := HEND.out
          have hb154 : ∀ h, (mkS B)[154]'h = 0 := fun h => by
            rw [← e54, List.getD_eq_getElem?_getD, List.getElem?_eq_getElem (by omega)]
            simp [mkS, ByteArray.getElem_eq_getElem_data]
          have hb155 : ∀ h, (mkS B)[155]'h = 32 := fun h => by
            rw [← e55, List.getD_eq_getElem?_getD, List.getElem?_eq_getElem (by omega)]
            simp [mkS, ByteArray.getElem_eq_getElem_data]
          clear hb7 hB7 hB8 hT hT4 hd1 hd hr hx hb hv hvn hbn hne hz7 htl e54 e55 HDG HKL HK0 HN6
          go_wp2_with fail
          refine (HGT.out _ (HG.out.below B9.out)).mono ?_
          rintro e w8 ⟨rfl, hb8⟩
          have B10 := Aside0.mk (below_next B9.out hb8)
          clear hb8
          go_wp2_with fail
          refine (HE4.out _).mono ?_
          rintro e u ⟨rfl, hu⟩
          rw [hu]
          clear hu
          go_wp2_with fail
          refine (HMB.out _ (HG.out.below (below_alloc B10.out _))).mono ?_
          rintro e w9 ⟨rfl, hb9⟩
          have B11 := Aside0.mk (below_next (below_alloc B10.out _) hb9)
          clear hb9
          go_wp2_with fail
          refine (awake_any _ (HG.out.below B11.out)).mono ?_
          rintro e w10 ⟨rfl, hb10⟩
          have B12 := Aside0.mk (below_next B11.out hb10)
          clear hb10
          go_wp2
          exact HD.out _ _ rfl B12.out
theorem headSum_walk (a b : ByteArray) (A : Option Addr) (len cap : Nat) (zs : List Int) (t mo : Int) (w : World) (hG : Good w) (ha : a.size ≤ 140737488351232) (hb : b.size ≤ 140737488351232)
    (hz : (A = none ∧ len = 0 ∧ cap = 0 ∧ zs = []) ∨ ∃ x, A = some x ∧ len ≤ cap ∧ cap ≤ maxLen ∧ zs.length = cap ∧ (∀ i, i < zs.length → w.cell? (x.add i) = some (.int .u32 (zs.getD i 0))) ∧ ∀ n ∈ zs, (Lit.int .u32 n).wf = true)
    (hy : len * 4 ≤ 140737488351232) (ht : 0 ≤ t ∧ t ≤ 255) (hmo : 0 ≤ mo ∧ mo ≤ 255) :
    Calls Tryd.prog 6 #[.string a, .string b, .slice A len cap, .int .u8 t, .int .u8 mo] w fun e w' => e = .returned (.bool true) ∧ Below w.heap.size w w' := by
  obtain ⟨a, rfl⟩ := exists_mkS a
  obtain ⟨b, rfl⟩ := exists_mkS b
  obtain ⟨tt, rfl⟩ : ∃ x : UInt8, (x.toNat : Int) = t := ⟨UInt8.ofNat t.toNat, by simp; omega⟩
  obtain ⟨n, rfl⟩ : ∃ n : Nat, (n : Int) = mo := ⟨mo.toNat, by omega⟩
  by_cases h : 300 < a.length ∨ 300 < b.length
  · exact headSum_far a b A len cap tt _ w hG h
  · exact headSum_main a b A len cap zs tt n w hG (nums_of_row hz hy) (by omega) (by omega) (by omega)
end Go.Proofs.YtpmiddhdgidimaaDoor
