/- RecLimits: the walk. -/
import Derived.Test.YtldimdlobgnnpaaDoorRecLaw
import Derived.Test.YtldimdlobgnnpaaDoorZeros
set_option linter.unusedVariables false
set_option linter.unusedSimpArgs false
namespace Go.Proofs.YtldimdlobgnnpaaDoor
open Go.RowKit Go.Proofs.YtldimdlobgnnpaaDoorW.PrintWords

theorem may_short (m : Nat) (hm : m < 1000) (h0 : 0 < m) : mayR (List.replicate m 107) [] = decide (((List.replicate m (107 : UInt8)).length : Int) ≤ 255) := by
  have hL := restL_len (List.replicate m 107) []
  rw [List.length_replicate, List.length_nil] at hL
  have hsp := recNum_spec (restL (List.replicate m 107) []).length (by omega)
  have hpl := putL_len (List.replicate m 107) [] (by omega)
  rw [List.length_replicate]
  by_cases h : m ≤ 255
  · rw [decide_eq_true (by omega)]
    exact may_iffR.2 ⟨by simp; omega, by simp; omega, by simp, by simp, by omega⟩
  · rw [decide_eq_false (by omega)]
    cases hm : mayR (List.replicate m 107) [] with
    | false => rfl
    | true => have := (may_iffR.1 hm).2.1; simp at this; omega
theorem may_long (n : Nat) (hn : n < 65560) (h0 : 65500 ≤ n) : mayR [107] (List.replicate n 0) = decide (((List.replicate n (0 : UInt8)).length : Int) + 9 ≤ 65536) := by
  have hL := restL_len [107] (List.replicate n 0)
  rw [List.length_replicate, List.length_singleton] at hL
  have hsp := recNum_spec (restL [107] (List.replicate n 0)).length (by omega)
  have hpl := putL_len [107] (List.replicate n 0) (by omega)
  have h5 : Lib.nDigits (recNum (restL [107] (List.replicate n 0)).length) = 5 := Lib.nDigits_unique 4 _ (by omega) (by omega)
  rw [List.length_replicate]
  by_cases h : n + 9 ≤ 65536
  · rw [decide_eq_true (by omega)]
    exact may_iffR.2 ⟨by simp, by simp, by simp, by simp, by omega⟩
  · rw [decide_eq_false (by omega)]
    cases hm : mayR [107] (List.replicate n 0) with
    | false => rfl
    | true => have := (may_iffR.1 hm).2.2.2.2; omega
set_option maxHeartbeats 4000000 in
set_option maxRecDepth 100000 in
theorem recLimits_walk (x y : Int) (w : World) (hG : Good w) (h0 : 0 ≤ x ∧ x ≤ 65535) (h1 : 0 ≤ y ∧ y ≤ 255) : Calls Tryd.prog 4 #[.int .u16 x, .int .u8 y] w fun e w' => e = .returned (.bool true) ∧ Below w.heap.size w w' := by
  obtain ⟨n, hn⟩ : ∃ n : Nat, (n : Int) = 65500 + x % 60 := ⟨(65500 + x % 60).toNat, by omega⟩
  obtain ⟨m, hm⟩ : ∃ m : Nat, (m : Int) = 250 + y % 10 := ⟨(250 + y % 10).toNat, by omega⟩
  have hrem : 65500 + x % 60 = (n : Int) := hn.symm
  have hrem2 : 250 + y % 10 = (m : Int) := hm.symm
  have hn2 : n < 65560 := by omega
  have hn3 : 65500 ≤ n := by omega
  have hm2 : m < 260 := by omega
  have hm3 : 250 ≤ m := by omega
  have HG := Aside0.mk hG
  clear hG hn hm
  obtain ⟨W0, hmk, hb0, hz0, hcv⟩ := zeros_world 0 (by omega) w
  rw [show ((0 : Nat) : Int) = 0 from rfl, show mkS (List.replicate 0 0) = mkS [] from rfl] at *
  go_enter Tryd.func4, Tryd.ntmps4
  go_wp2_with fail
  go_loop [5, 6] (fun t v => ∃ j : Nat, j ≤ m ∧ v = .int .i64 j ∧ t = .string (mkS (List.replicate j 107))) (fun _ v => m - (intOf v).toNat)
  case atStart => exact ⟨0, Nat.zero_le _, rfl, rfl⟩
  case round =>
    obtain ⟨j, hj, rfl, rfl⟩ := hrel
    by_cases hlt : j < m
    · have a1 := fun W => str_add (P := Tryd.prog) (s := mkS (List.replicate j 107)) (t := ⟨#[107]⟩) (a := List.replicate j 107) (b := [107]) (c := List.replicate (j + 1) 107) rfl rfl (by rw [List.replicate_succ']) (by simp; omega) W
      obtain ⟨r1, hr1⟩ : ∃ r1, List.replicate j (107 : UInt8) = r1 := ⟨_, rfl⟩
      obtain ⟨r2, hr2⟩ : ∃ r2, List.replicate (j + 1) (107 : UInt8) = r2 := ⟨_, rfl⟩
      rw [hr1, hr2] at a1
      rw [hr1]
      have HR2 := Aside0.mk hr2
      clear hr1 hr2
      go_wp2_with fail
      go_round
      case rel => exact ⟨j + 1, by omega, by go_num, by rw [HR2.out]⟩
      case measure => simp [intOf]; omega
    · obtain rfl : j = m := by omega
      have hms := may_short j (by omega) (by omega)
      have hml := may_long n hn2 hn3
      obtain ⟨kk, hkk⟩ : ∃ kk, List.replicate j (107 : UInt8) = kk := ⟨_, rfl⟩
      have hkl : kk.length ≤ 260 := by rw [← hkk]; simp; omega
      rw [hkk] at hms ⊢
      have HB0 := Aside0.mk (below_alloc hb0 (.cells #[.string (mkS kk), .string ⟨#[]⟩] 25))
      have g0 := heap_alloc_new W0 (.cells #[.string (mkS kk), .string ⟨#[]⟩] 25)
      clear hkk hmk hcv hz0 hb0
      go_upto_region 7 with (fail)
      obtain ⟨W2, hmk2, hb2, hz2, hcv2⟩ := zeros_world n (by omega) (W0.alloc (.cells #[.string (mkS kk), .string ⟨#[]⟩] 25))
      obtain ⟨z, hz⟩ : ∃ z, List.replicate n (0 : UInt8) = z := ⟨_, rfl⟩
      rw [hz] at hml hcv2
      have hzl : z.length ≤ 65560 := by rw [← hz]; simp; omega
      have g2 := (hb2.block _ (blk_lt g0)).trans g0
      obtain ⟨n0, hn0⟩ : ∃ n0, W0.heap.size = n0 := ⟨_, rfl⟩
      rw [hn0] at g2 ⊢
      generalize W0.alloc (.cells #[.string (mkS kk), .string ⟨#[]⟩] 25) = W1 at *
      have HB3 := Aside0.mk (below_alloc (below_next HB0.out hb2) (.cells #[.string ⟨#[107]⟩, .string (mkS z)] 25))
      have g3 := blk_alloc g2 (.cells #[.string ⟨#[107]⟩, .string (mkS z)] 25)
      have g4 := heap_alloc_new W2 (.cells #[.string ⟨#[107]⟩, .string (mkS z)] 25)
      clear hz hb2 hz2 g0 g2 hn0
      go_upto_region 8 with (fail)
      obtain ⟨n2, hn2'⟩ : ∃ n2, W2.heap.size = n2 := ⟨_, rfl⟩
      rw [hn2'] at g4 ⊢
      generalize W2.alloc (.cells #[.string ⟨#[107]⟩, .string (mkS z)] 25) = W3 at HB3 g3 g4 ⊢
      have HG3 := Aside0.mk (HG.out.below HB3.out)
      have c0 : W3.cell? ⟨n0, 0, none⟩ = some (.string (mkS kk)) := blk_cell g3 0
      have c1 : W3.cell? ⟨n0, 1, none⟩ = some (.string ⟨#[]⟩) := blk_cell g3 1
      have c2 : W3.cell? ⟨n2, 0, none⟩ = some (.string ⟨#[107]⟩) := blk_cell g4 0
      have c3 : W3.cell? ⟨n2, 1, none⟩ = some (.string (mkS z)) := blk_cell g4 1
      have z3 := blk_lt g3
      have z4 := blk_lt g4
      have KP := Aside0.mk (show ∀ W, Below W3.heap.size W3 W → W.cell? ⟨n0, 0, none⟩ = some (.string (mkS kk)) ∧ W.cell? ⟨n0, 1, none⟩ = some (.string ⟨#[]⟩) ∧ W.cell? ⟨n2, 0, none⟩ = some (.string ⟨#[107]⟩) ∧ W.cell? ⟨n2, 1, none⟩ = some (.string (mkS z)) ∧ Aside0 (Below W3.heap.size W3 W) from fun W hb =>
        ⟨(hb.cell (p := ⟨_, 0, none⟩) z3).trans c0, (hb.cell (p := ⟨_, 1, none⟩) z3).trans c1, (hb.cell (p := ⟨_, 0, none⟩) z4).trans c2, (hb.cell (p := ⟨_, 1, none⟩) z4).trans c3, ⟨hb⟩⟩)
      have HR0 := Aside0.mk (Below.refl W3.heap.size W3)
      have HMS := Aside0.mk (show ∀ w, Good w → Calls Tryd.prog 12 #[.agg #[.string (mkS kk), .string ⟨#[]⟩]] w fun e w' => e = .returned (.bool (decide ((kk.length : Int) ≤ 255))) ∧ Below w.heap.size w w' from fun w hG => may_is kk [] _ hms w hG (by simp; omega))
      have HML := Aside0.mk (show ∀ w, Good w → Calls Tryd.prog 12 #[.agg #[.string ⟨#[107]⟩, .string (mkS z)]] w fun e w' => e = .returned (.bool (decide ((z.length : Int) + 9 ≤ 65536))) ∧ Below w.heap.size w w' from fun w hG => may_is [107] z _ hml w hG (by simp; omega))
      have HM0 := Aside0.mk (show ∀ w, Good w → Calls Tryd.prog 12 #[.agg #[.string ⟨#[]⟩, .string ⟨#[]⟩]] w fun e w' => e = .returned (.bool false) ∧ Below w.heap.size w w' from fun w hG => may_is [] [] false rfl w hG (by decide))
      have HM1 := Aside0.mk (show ∀ w, Good w → Calls Tryd.prog 12 #[.agg #[.string ⟨#[97, 61, 98]⟩, .string ⟨#[]⟩]] w fun e w' => e = .returned (.bool false) ∧ Below w.heap.size w w' from fun w hG => may_is [97, 61, 98] [] false (by kernel_rfl) w hG (by decide))
      have HM2 := Aside0.mk (show ∀ w, Good w → Calls Tryd.prog 12 #[.agg #[.string ⟨#[97, 0]⟩, .string ⟨#[]⟩]] w fun e w' => e = .returned (.bool false) ∧ Below w.heap.size w w' from fun w hG => may_is [97, 0] [] false (by kernel_rfl) w hG (by decide))
      have HP0 := Aside0.mk (show ∀ w, Good w → Calls Tryd.prog 8 #[.agg #[.string ⟨#[]⟩, .string ⟨#[]⟩]] w fun e w' => e = .returned (.string ⟨#[]⟩) ∧ Below w.heap.size w w' from fun w hG => putR_is [] [] [] rfl w hG (by decide))
      have hw9 : IntKind.i64.wrap ((z.length : Int) + 9) = (z.length : Int) + 9 := by rw [IntKind.wrap_i64]; omega
      clear c0 c1 c2 c3 g3 g4 hn2' hms hml hmk2 hcv2
      go_region_held3 (fun W => W.cell? ⟨n0, 0, none⟩ = some (.string (mkS kk)) ∧ W.cell? ⟨n0, 1, none⟩ = some (.string ⟨#[]⟩) ∧ W.cell? ⟨n2, 0, none⟩ = some (.string ⟨#[107]⟩) ∧ W.cell? ⟨n2, 1, none⟩ = some (.string (mkS z)) ∧ Aside0 (Below W3.heap.size W3 W))
        (first
          | exact KP.out _ (below_drew HR0.out)
          | exact KP.out _ hbq)
        ((go_split_ands
          have hbw := Aside0.out (by assumption : Aside0 (Below W3.heap.size W3 _))
          first
          | ((with_reducible refine (HMS.out _ (HG3.out.below hbw)).mono ?_); rintro e wp ⟨rfl, hbp⟩; have hbq := below_next hbw hbp)
          | ((with_reducible refine (HML.out _ (HG3.out.below hbw)).mono ?_); rintro e wp ⟨rfl, hbp⟩; have hbq := below_next hbw hbp)
          | ((with_reducible refine (HM0.out _ (HG3.out.below hbw)).mono ?_); rintro e wp ⟨rfl, hbp⟩; have hbq := below_next hbw hbp)
          | ((with_reducible refine (HM1.out _ (HG3.out.below hbw)).mono ?_); rintro e wp ⟨rfl, hbp⟩; have hbq := below_next hbw hbp)
          | ((with_reducible refine (HM2.out _ (HG3.out.below hbw)).mono ?_); rintro e wp ⟨rfl, hbp⟩; have hbq := below_next hbw hbp)
          | (go_at_call 8; refine (HP0.out _ (HG3.out.below hbw)).mono ?_; rintro e wp ⟨rfl, hbp⟩; have hbq := below_next hbw hbp)
          | (go_at_call 13; refine (awake_any _ (HG3.out.below hbw)).mono ?_; rintro e wp ⟨rfl, hbp⟩; have hbq := below_next hbw hbp)))
      all_goals
        go_wp2_with fail
        go_ret
        exact ⟨rfl, below_next HB3.out hbq⟩
end Go.Proofs.YtldimdlobgnnpaaDoor
