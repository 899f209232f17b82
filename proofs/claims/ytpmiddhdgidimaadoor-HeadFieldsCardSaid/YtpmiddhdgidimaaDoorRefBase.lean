/- The reference's Base, Field. -/
import Derived.Test.YtpmiddhdgidimaaDoorRefOct
set_option linter.unusedVariables false
set_option linter.unusedSimpArgs false
namespace Go.Proofs.YtpmiddhdgidimaaDoor
open Go.RowKit Go.Proofs.YtpmiddhdgidimaaDoorW.PrintWords

theorem base_res (p : Nat) (x0 x1 : Value) (tmps : Array Value) (W : World) (t8 : tmps.getD 4 undef = .pointer (some ⟨p, 0, none⟩)) (H : W.heap[p]? = some (.cells #[x0, x1] 38)) :
    (results Tryd.f30 tmps).run Tryd.prog W = .ok (.agg #[x0, x1]) W := by
  have c0 : W.cell? ⟨p, 0, none⟩ = some x0 := blk_cell H 0
  have c1 : W.cell? ⟨p, 1, none⟩ = some x1 := blk_cell H 1
  clear H
  replace t8 : tmps[4]?.getD undef = .pointer (some ⟨p, 0, none⟩) := by simpa using t8
  simp only [results, Tryd.results30]
  simp [Sem.run_bind, Result.andThen, t8, go_sem, c0, c1]
set_option maxHeartbeats 4000000 in
set_option maxRecDepth 100000 in
theorem rBase_far (n : Int) (w : World) (hn : 72057594037927936 ≤ n ∨ n < -72057594037927936) :
    Calls Tryd.prog 30 #[.int .i64 n, .int .i64 8] w fun e w' => e = .returned (saidR none) ∧ Below w.heap.size w w' := by
  have H := heap_alloc_new w (.cells #[.string ⟨#[]⟩, .bool false] 38)
  rcases hn with h | h
  all_goals
    go_enter Tryd.func30, Tryd.ntmps30
    go_wp2_with fail
    refine bodyPost_ret (base_res w.heap.size _ _ _ _ rfl H) rfl ?_
    exact ⟨rfl, below_alloc (Below.refl _ _) _⟩
/-- The bytes while they are laid. -/
def baseTo (wd : Nat) (n : Int) (i : Nat) : List UInt8 := (baseL wd n).take i ++ List.replicate (wd - i) 0
theorem baseTo_length (wd : Nat) (n : Int) (i : Nat) (hw : 0 < wd) (hi : i ≤ wd) : (baseTo wd n i).length = wd := by
  unfold baseTo; rw [List.length_append, List.length_take, baseL_length _ _ hw, List.length_replicate]; omega
theorem baseTo_all (wd : Nat) (n : Int) (hw : 0 < wd) : baseTo wd n wd = baseL wd n := by
  unfold baseTo; rw [Nat.sub_self, List.replicate_zero, List.append_nil, List.take_of_length_le (by rw [baseL_length _ _ hw]; omega)]
theorem leD_at : ∀ (k : Nat) (n : Int) (j : Nat), j < k → (leD k n)[j]? = some (UInt8.ofNat (n / 256 ^ j % 256).toNat)
  | 0, n, j, h => by omega
  | k + 1, n, 0, h => by simp [leD]
  | k + 1, n, j + 1, h => by
    rw [leD, List.getElem?_cons_succ, leD_at k (n / 256) j (by omega)]
    congr 3
    rw [Int.ediv_ediv_of_nonneg (by decide), Int.pow_succ, Int.mul_comm (256 ^ j) 256]
theorem baseL_at (wd : Nat) (n : Int) (i : Nat) (h0 : 0 < i) (hi : i < wd) : (baseL wd n)[i]? = some (UInt8.ofNat (n / 256 ^ (wd - 1 - i) % 256).toNat) := by
  unfold baseL
  obtain ⟨i, rfl⟩ : ∃ k, i = k + 1 := ⟨i - 1, by omega⟩
  rw [List.getElem?_cons_succ, List.getElem?_reverse (by rw [leD_length]; omega), leD_length, leD_at _ _ _ (by omega), show wd - 1 - (i + 1) = wd - 1 - 1 - i by omega]
theorem baseTo_step (wd : Nat) (n : Int) (i : Nat) (hi : i < wd) (c : UInt8) (hc : (baseL wd n)[i]? = some c) : (baseTo wd n i).set i c = baseTo wd n (i + 1) := by
  have hl : (baseL wd n).length = wd := baseL_length _ _ (by omega)
  unfold baseTo
  rw [List.set_append_right _ _ (by rw [List.length_take]; omega), List.length_take, hl, Nat.min_eq_left (by omega), Nat.sub_self]
  obtain ⟨r, hr⟩ : ∃ r, wd - i = r + 1 := ⟨wd - i - 1, by omega⟩
  rw [hr, List.replicate_succ, List.set_cons_zero, show wd - (i + 1) = r by omega, List.take_add_one, hc]
  simp
theorem zeros_bytes (n : Nat) (hn : n ≤ 1000000) (w : World) : ∃ W, (Instr.makeSlice 34 (.int .i64 (n : Int)) (.int .i64 (n : Int))).run Tryd.prog w = .ok (.slice (some ⟨w.heap.size, 0, none⟩) n n) W ∧ Below w.heap.size w W ∧ W.heap.size = w.heap.size + 1 ∧ Bytes W w.heap.size (List.replicate n 0) := by
  refine ⟨_, run_make_row' (P := Tryd.prog) 34 5 (.int .u8 0) 1 Tryd.underlying34 info_byte rfl .i64 .i64 n (by omega) (by omega) w, (Below.refl _ _).alloc (Nat.le_refl _) _, by simp, ?_⟩
  refine ⟨fun j hj => ?_, fun j hj => ?_, by simp⟩
  · rw [World.cell?_alloc_at _ _ _ _ (by simp)]
    rw [List.length_replicate] at hj
    have h2 : (madeCells #[Value.int .u8 0] n).toList[j]? = some (.int .u8 0) := by rw [toList_madeCells_one, List.getElem?_replicate, if_pos hj]
    rw [← Array.getElem?_toList, h2]
    simp [List.getD_eq_getElem?_getD, hj]
  · exact blk_frozen (heap_alloc_new w (.cells (madeCells #[.int .u8 0] n) 5)) j
theorem base_first (wd : Nat) (n : Int) (hw : 0 < wd) : (List.replicate wd (0 : UInt8)).set 0 (signB n) = baseTo wd n 1 := by
  obtain ⟨k, rfl⟩ : ∃ k, wd = k + 1 := ⟨wd - 1, by omega⟩
  unfold baseTo baseL
  simp [List.replicate_succ]
theorem base_skip (wd : Nat) (n : Int) (i : Nat) (hi : i < wd) : (baseTo wd n i).set i 0 = baseTo wd n i := by
  have hl : (baseL wd n).length = wd := baseL_length _ _ (by omega)
  unfold baseTo
  rw [List.set_append_right _ _ (by rw [List.length_take]; omega), List.length_take, hl, Nat.min_eq_left (by omega), Nat.sub_self]
  obtain ⟨r, hr⟩ : ∃ r, wd - i = r + 1 := ⟨wd - i - 1, by omega⟩
  rw [hr, List.replicate_succ, List.set_cons_zero]
theorem u8_of (x : Int) : ((UInt8.ofNat (x % 256).toNat).toNat : Int) = x % 256 := by
  rw [UInt8.toNat_ofNat']
  omega
set_option maxHeartbeats 4000000 in
set_option maxRecDepth 100000 in
theorem rBase_near (n : Int) (wd : Nat) (w : World) (hw : wd = 8 ∨ wd = 12) (hn0 : -9223372036854775808 ≤ n) (hn : n ≤ 9223372036854775807) (hb : baseOk wd n = true) :
    Calls Tryd.prog 30 #[.int .i64 n, .int .i64 (wd : Int)] w fun e w' => e = .returned (saidR (some (baseL wd n))) ∧ Below w.heap.size w w' := by
  have hq : wd = 12 ∨ (wd = 8 ∧ ¬ (72057594037927936 ≤ n) ∧ ¬ (n < -72057594037927936)) := by
    unfold baseOk at hb
    rcases hw with rfl | rfl
    · right; simp at hb; omega
    · left; rfl
  obtain ⟨res, hres⟩ : ∃ r, r = saidR (some (baseL wd n)) := ⟨_, rfl⟩
  rw [← hres]
  have HRES := Aside0.mk hres
  have HQ := hq
  clear hres hb
  have H := Aside0.mk (heap_alloc_new w (.cells #[.string ⟨#[]⟩, .bool false] 38))
  have HB0 := Aside0.mk (below_alloc (Below.refl w.heap.size w) (.cells #[.string ⟨#[]⟩, .bool false] 38))
  obtain ⟨W1, hm, hb1, hs1, hB1⟩ := zeros_bytes wd (by omega) (w.alloc (.cells #[.string ⟨#[]⟩, .bool false] 38))
  rw [show (w.alloc (.cells #[.string ⟨#[]⟩, .bool false] 38)).heap.size = w.heap.size + 1 by simp] at hm hB1 hs1
  have H1 := Aside0.mk ((hb1.block _ (blk_lt H.out)).trans H.out)
  have HB1 := Aside0.mk (below_next HB0.out hb1)
  have hlw : 0 < (List.replicate wd (0 : UInt8)).length := by rw [List.length_replicate]; omega
  have c0 := hB1.cell 0 hlw
  have f0 := hB1.free 0 hlw
  have e0 : (List.replicate wd (0 : UInt8)).getD 0 0 = 0 := by
    rcases hw with rfl | rfl <;> rfl
  rw [e0] at c0
  have HS := Aside0.mk (hB1.set 0 hlw (signB n))
  rw [base_first wd n (by omega)] at HS
  have HY := Aside0.mk hB1
  have ls : w.heap.size + 1 < W1.heap.size := by omega
  clear hb1 hB1 H HB0 hs1 e0
  have hsg : (n < 0 ∧ (signB n).toNat = 255) ∨ (¬ n < 0 ∧ (signB n).toNat = 128) := by
    unfold signB
    by_cases h : n < 0
    · left; rw [if_pos h]; exact ⟨h, rfl⟩
    · right; rw [if_neg h]; exact ⟨h, rfl⟩
  rcases hq with rfl | ⟨rfl, h1, h2⟩
  · rw [show ((12 : Nat) : Int) = 12 from rfl] at hm
    go_enter Tryd.func30, Tryd.ntmps30
    rcases hsg with ⟨hs, hv⟩ | ⟨hs, hv⟩
    · have HSG := Aside0.mk hs
      rw [hv] at HS
      have hs2 := (HY.out.set 0 hlw 128).set 0 (by rw [List.length_set]; exact hlw) (signB n)
      rw [List.set_set, base_first 12 n (by decide), hv] at hs2
      have HS2 := Aside0.mk hs2
      clear hs2
      have B0 := Aside0.mk (Below.setCell HB1.out (p := ⟨w.heap.size + 1, 0, none⟩) (Nat.le_succ _) (.int .u8 255))
      have H0 := Aside0.mk (blk_miss (g' := w.heap.size + 1) (i := 0) (v := .int .u8 255) H1.out (Nat.succ_ne_self _).symm)
      go_wp2_with fail
      go_loopw [6] (fun v wr => ∃ i : Nat, 1 ≤ i ∧ i ≤ 12 ∧ v = .int .i64 (i : Int) ∧ Aside0 (Bytes wr (w.heap.size + 1) (baseTo 12 n i)) ∧ Aside0 (wr.heap[w.heap.size]? = some (.cells #[.string ⟨#[]⟩, .bool false] 38)) ∧ Aside0 (Below w.heap.size w wr)) (fun v _ => 12 - (intOf v).toNat)
      case atStart => exact ⟨1, by omega, by omega, rfl, by first | exact HS | exact HS2, ⟨by first | exact blk_miss (blk_miss H1.out (Nat.succ_ne_self _).symm) (Nat.succ_ne_self _).symm | exact blk_miss H1.out (Nat.succ_ne_self _).symm⟩, ⟨by first | exact Below.setCell HB1.out (Nat.le_succ _) _ | exact Below.setCell (Below.setCell HB1.out (Nat.le_succ _) _) (Nat.le_succ _) _⟩⟩
      case round =>
        obtain ⟨i, hi1, hi2, rfl, HY, HH, HB⟩ := hrel
        by_cases hlt : i < 12
        · have hli : i < (baseTo 12 n i).length := by rw [baseTo_length 12 n i (by decide) hi2]; exact hlt
          have c0 := HY.out.cell i hli
          have f0 := HY.out.free i hli
          have l0 := HY.out.lt
          have hbi := baseL_at 12 n i hi1 hlt
          have HST := Aside0.mk (fun (c : UInt8) (hc : (baseL 12 n)[i]? = some c) => show Bytes (wr.setCell ⟨w.heap.size + 1, i, none⟩ (.int .u8 c.toNat)) (w.heap.size + 1) (baseTo 12 n (i + 1)) from by rw [← baseTo_step 12 n i hlt c hc]; exact HY.out.set i hli c)
          have HSK := Aside0.mk (fun (hc : (baseL 12 n)[i]? = some 0) => show Bytes wr (w.heap.size + 1) (baseTo 12 n (i + 1)) from by
            rw [← baseTo_step 12 n i hlt 0 hc, show (baseTo 12 n i).set i 0 = baseTo 12 n i from base_skip 12 n i hlt]; exact HY.out)
          have HM := Aside0.mk (fun (c : Value) => blk_miss (g' := w.heap.size + 1) (i := i) (v := c) HH.out (Nat.succ_ne_self _).symm)
          have HBI := Aside0.mk hbi
          clear hbi HY
          have hcases : i = 1 ∨ i = 2 ∨ i = 3 ∨ i = 4 ∨ i = 5 ∨ i = 6 ∨ i = 7 ∨ i = 8 ∨ i = 9 ∨ i = 10 ∨ i = 11 := by omega
          rcases hcases with rfl | rfl | rfl | rfl | rfl | rfl | rfl | rfl | rfl | rfl | rfl
          · have e : n / 256 ^ (12 - 1 - 1) % 256 = 255 := by have := HSG.out; simp only [Nat.reduceSub, Int.reducePow]; omega
            go_wp2_with fail
            exact ⟨⟨1 + 1, by omega, by omega, rfl, ⟨by have h := HST.out _ HBI.out; rw [u8_of, e] at h; simpa using h⟩, ⟨HM.out _⟩, ⟨HB.out.setCell (Nat.le_succ _) _⟩⟩, by simp [intOf]⟩
          · have e : n / 256 ^ (12 - 1 - 2) % 256 = 255 := by have := HSG.out; simp only [Nat.reduceSub, Int.reducePow]; omega
            go_wp2_with fail
            exact ⟨⟨2 + 1, by omega, by omega, rfl, ⟨by have h := HST.out _ HBI.out; rw [u8_of, e] at h; simpa using h⟩, ⟨HM.out _⟩, ⟨HB.out.setCell (Nat.le_succ _) _⟩⟩, by simp [intOf]⟩
          · have e : n / 256 ^ (12 - 1 - 3) % 256 = 255 := by have := HSG.out; simp only [Nat.reduceSub, Int.reducePow]; omega
            go_wp2_with fail
            exact ⟨⟨3 + 1, by omega, by omega, rfl, ⟨by have h := HST.out _ HBI.out; rw [u8_of, e] at h; simpa using h⟩, ⟨HM.out _⟩, ⟨HB.out.setCell (Nat.le_succ _) _⟩⟩, by simp [intOf]⟩
          · go_wp2_with fail
            exact ⟨⟨4 + 1, by omega, by omega, rfl, ⟨by have h := HST.out _ HBI.out; rw [u8_of] at h; simpa using h⟩, ⟨HM.out _⟩, ⟨HB.out.setCell (Nat.le_succ _) _⟩⟩, by simp [intOf]⟩
          · go_wp2_with fail
            exact ⟨⟨5 + 1, by omega, by omega, rfl, ⟨by have h := HST.out _ HBI.out; rw [u8_of] at h; simpa using h⟩, ⟨HM.out _⟩, ⟨HB.out.setCell (Nat.le_succ _) _⟩⟩, by simp [intOf]⟩
          · go_wp2_with fail
            exact ⟨⟨6 + 1, by omega, by omega, rfl, ⟨by have h := HST.out _ HBI.out; rw [u8_of] at h; simpa using h⟩, ⟨HM.out _⟩, ⟨HB.out.setCell (Nat.le_succ _) _⟩⟩, by simp [intOf]⟩
          · go_wp2_with fail
            exact ⟨⟨7 + 1, by omega, by omega, rfl, ⟨by have h := HST.out _ HBI.out; rw [u8_of] at h; simpa using h⟩, ⟨HM.out _⟩, ⟨HB.out.setCell (Nat.le_succ _) _⟩⟩, by simp [intOf]⟩
          · go_wp2_with fail
            exact ⟨⟨8 + 1, by omega, by omega, rfl, ⟨by have h := HST.out _ HBI.out; rw [u8_of] at h; simpa using h⟩, ⟨HM.out _⟩, ⟨HB.out.setCell (Nat.le_succ _) _⟩⟩, by simp [intOf]⟩
          · go_wp2_with fail
            exact ⟨⟨9 + 1, by omega, by omega, rfl, ⟨by have h := HST.out _ HBI.out; rw [u8_of] at h; simpa using h⟩, ⟨HM.out _⟩, ⟨HB.out.setCell (Nat.le_succ _) _⟩⟩, by simp [intOf]⟩
          · go_wp2_with fail
            exact ⟨⟨10 + 1, by omega, by omega, rfl, ⟨by have h := HST.out _ HBI.out; rw [u8_of] at h; simpa using h⟩, ⟨HM.out _⟩, ⟨HB.out.setCell (Nat.le_succ _) _⟩⟩, by simp [intOf]⟩
          · go_wp2_with fail
            exact ⟨⟨11 + 1, by omega, by omega, rfl, ⟨by have h := HST.out _ HBI.out; rw [u8_of] at h; simpa using h⟩, ⟨HM.out _⟩, ⟨HB.out.setCell (Nat.le_succ _) _⟩⟩, by simp [intOf]⟩
        · obtain rfl : i = 12 := by omega
          have HY2 := HY.out
          rw [baseTo_all 12 n (by decide)] at HY2
          obtain ⟨L, hL⟩ : ∃ L, baseL 12 n = L := ⟨_, rfl⟩
          have hLl : L.length = 12 := by rw [← hL]; exact baseL_length _ _ (by decide)
          rw [hL] at HY2
          have HR := Aside0.mk (show res = saidR (some L) by rw [HRES.out, hL])
          have hbk := HY2.back (P := Tryd.prog) 34 9 5 12 12 hLl.symm Tryd.underlying34 Tryd.underlying5 Tryd.underlying9
          have d0 : wr.cell? ⟨w.heap.size, 0, none⟩ = some (.string ⟨#[]⟩) := blk_cell HH.out 0
          have d1 : wr.cell? ⟨w.heap.size, 1, none⟩ = some (.bool false) := blk_cell HH.out 1
          have k0 := blk_frozen HH.out 0
          have k1 := blk_frozen HH.out 1
          have lh := blk_lt HH.out
          clear HY2 hL hLl
          go_wp2_with fail
          have a1 := blk_hit (i := 0) (v := .string (mkS L)) HH.out
          have a2 := blk_hit (i := 1) (v := .bool true) a1
          simp only [List.setIfInBounds_toArray, List.set_cons_zero, List.set_cons_succ] at a2
          refine bodyPost_ret (base_res w.heap.size _ _ _ _ rfl a2) rfl ?_
          exact ⟨by rw [HR.out]; rfl, Below.setCell (Below.setCell HB.out (Nat.le_refl _) _) (Nat.le_refl _) _⟩
    · have HSG := Aside0.mk hs
      rw [hv] at HS
      go_wp2_with fail
      go_loopw [6] (fun v wr => ∃ i : Nat, 1 ≤ i ∧ i ≤ 12 ∧ v = .int .i64 (i : Int) ∧ Aside0 (Bytes wr (w.heap.size + 1) (baseTo 12 n i)) ∧ Aside0 (wr.heap[w.heap.size]? = some (.cells #[.string ⟨#[]⟩, .bool false] 38)) ∧ Aside0 (Below w.heap.size w wr)) (fun v _ => 12 - (intOf v).toNat)
      case atStart => exact ⟨1, by omega, by omega, rfl, by first | exact HS | exact HS2, ⟨by first | exact blk_miss (blk_miss H1.out (Nat.succ_ne_self _).symm) (Nat.succ_ne_self _).symm | exact blk_miss H1.out (Nat.succ_ne_self _).symm⟩, ⟨by first | exact Below.setCell HB1.out (Nat.le_succ _) _ | exact Below.setCell (Below.setCell HB1.out (Nat.le_succ _) _) (Nat.le_succ _) _⟩⟩
      case round =>
        obtain ⟨i, hi1, hi2, rfl, HY, HH, HB⟩ := hrel
        by_cases hlt : i < 12
        · have hli : i < (baseTo 12 n i).length := by rw [baseTo_length 12 n i (by decide) hi2]; exact hlt
          have c0 := HY.out.cell i hli
          have f0 := HY.out.free i hli
          have l0 := HY.out.lt
          have hbi := baseL_at 12 n i hi1 hlt
          have HST := Aside0.mk (fun (c : UInt8) (hc : (baseL 12 n)[i]? = some c) => show Bytes (wr.setCell ⟨w.heap.size + 1, i, none⟩ (.int .u8 c.toNat)) (w.heap.size + 1) (baseTo 12 n (i + 1)) from by rw [← baseTo_step 12 n i hlt c hc]; exact HY.out.set i hli c)
          have HSK := Aside0.mk (fun (hc : (baseL 12 n)[i]? = some 0) => show Bytes wr (w.heap.size + 1) (baseTo 12 n (i + 1)) from by
            rw [← baseTo_step 12 n i hlt 0 hc, show (baseTo 12 n i).set i 0 = baseTo 12 n i from base_skip 12 n i hlt]; exact HY.out)
          have HM := Aside0.mk (fun (c : Value) => blk_miss (g' := w.heap.size + 1) (i := i) (v := c) HH.out (Nat.succ_ne_self _).symm)
          have HBI := Aside0.mk hbi
          clear hbi HY
          have hcases : i = 1 ∨ i = 2 ∨ i = 3 ∨ i = 4 ∨ i = 5 ∨ i = 6 ∨ i = 7 ∨ i = 8 ∨ i = 9 ∨ i = 10 ∨ i = 11 := by omega
          rcases hcases with rfl | rfl | rfl | rfl | rfl | rfl | rfl | rfl | rfl | rfl | rfl
          · have e : n / 256 ^ (12 - 1 - 1) % 256 = 0 := by have := HSG.out; simp only [Nat.reduceSub, Int.reducePow]; omega
            go_wp2_with fail
            exact ⟨⟨1 + 1, by omega, by omega, rfl, ⟨by have h := HSK.out (by rw [HBI.out, e]; rfl); simpa using h⟩, HH, HB⟩, by simp [intOf]⟩
          · have e : n / 256 ^ (12 - 1 - 2) % 256 = 0 := by have := HSG.out; simp only [Nat.reduceSub, Int.reducePow]; omega
            go_wp2_with fail
            exact ⟨⟨2 + 1, by omega, by omega, rfl, ⟨by have h := HSK.out (by rw [HBI.out, e]; rfl); simpa using h⟩, HH, HB⟩, by simp [intOf]⟩
          · have e : n / 256 ^ (12 - 1 - 3) % 256 = 0 := by have := HSG.out; simp only [Nat.reduceSub, Int.reducePow]; omega
            go_wp2_with fail
            exact ⟨⟨3 + 1, by omega, by omega, rfl, ⟨by have h := HSK.out (by rw [HBI.out, e]; rfl); simpa using h⟩, HH, HB⟩, by simp [intOf]⟩
          · go_wp2_with fail
            exact ⟨⟨4 + 1, by omega, by omega, rfl, ⟨by have h := HST.out _ HBI.out; rw [u8_of] at h; simp only [Nat.reduceSub, Int.reducePow] at h; rw [show n / 72057594037927936 % 256 = n / 72057594037927936 by have := HSG.out; omega] at h; simpa using h⟩, ⟨HM.out _⟩, ⟨HB.out.setCell (Nat.le_succ _) _⟩⟩, by simp [intOf]⟩
          · go_wp2_with fail
            exact ⟨⟨5 + 1, by omega, by omega, rfl, ⟨by have h := HST.out _ HBI.out; rw [u8_of] at h; simpa using h⟩, ⟨HM.out _⟩, ⟨HB.out.setCell (Nat.le_succ _) _⟩⟩, by simp [intOf]⟩
          · go_wp2_with fail
            exact ⟨⟨6 + 1, by omega, by omega, rfl, ⟨by have h := HST.out _ HBI.out; rw [u8_of] at h; simpa using h⟩, ⟨HM.out _⟩, ⟨HB.out.setCell (Nat.le_succ _) _⟩⟩, by simp [intOf]⟩
          · go_wp2_with fail
            exact ⟨⟨7 + 1, by omega, by omega, rfl, ⟨by have h := HST.out _ HBI.out; rw [u8_of] at h; simpa using h⟩, ⟨HM.out _⟩, ⟨HB.out.setCell (Nat.le_succ _) _⟩⟩, by simp [intOf]⟩
          · go_wp2_with fail
            exact ⟨⟨8 + 1, by omega, by omega, rfl, ⟨by have h := HST.out _ HBI.out; rw [u8_of] at h; simpa using h⟩, ⟨HM.out _⟩, ⟨HB.out.setCell (Nat.le_succ _) _⟩⟩, by simp [intOf]⟩
          · go_wp2_with fail
            exact ⟨⟨9 + 1, by omega, by omega, rfl, ⟨by have h := HST.out _ HBI.out; rw [u8_of] at h; simpa using h⟩, ⟨HM.out _⟩, ⟨HB.out.setCell (Nat.le_succ _) _⟩⟩, by simp [intOf]⟩
          · go_wp2_with fail
            exact ⟨⟨10 + 1, by omega, by omega, rfl, ⟨by have h := HST.out _ HBI.out; rw [u8_of] at h; simpa using h⟩, ⟨HM.out _⟩, ⟨HB.out.setCell (Nat.le_succ _) _⟩⟩, by simp [intOf]⟩
          · go_wp2_with fail
            exact ⟨⟨11 + 1, by omega, by omega, rfl, ⟨by have h := HST.out _ HBI.out; rw [u8_of] at h; simpa using h⟩, ⟨HM.out _⟩, ⟨HB.out.setCell (Nat.le_succ _) _⟩⟩, by simp [intOf]⟩
        · obtain rfl : i = 12 := by omega
          have HY2 := HY.out
          rw [baseTo_all 12 n (by decide)] at HY2
          obtain ⟨L, hL⟩ : ∃ L, baseL 12 n = L := ⟨_, rfl⟩
          have hLl : L.length = 12 := by rw [← hL]; exact baseL_length _ _ (by decide)
          rw [hL] at HY2
          have HR := Aside0.mk (show res = saidR (some L) by rw [HRES.out, hL])
          have hbk := HY2.back (P := Tryd.prog) 34 9 5 12 12 hLl.symm Tryd.underlying34 Tryd.underlying5 Tryd.underlying9
          have d0 : wr.cell? ⟨w.heap.size, 0, none⟩ = some (.string ⟨#[]⟩) := blk_cell HH.out 0
          have d1 : wr.cell? ⟨w.heap.size, 1, none⟩ = some (.bool false) := blk_cell HH.out 1
          have k0 := blk_frozen HH.out 0
          have k1 := blk_frozen HH.out 1
          have lh := blk_lt HH.out
          clear HY2 hL hLl
          go_wp2_with fail
          have a1 := blk_hit (i := 0) (v := .string (mkS L)) HH.out
          have a2 := blk_hit (i := 1) (v := .bool true) a1
          simp only [List.setIfInBounds_toArray, List.set_cons_zero, List.set_cons_succ] at a2
          refine bodyPost_ret (base_res w.heap.size _ _ _ _ rfl a2) rfl ?_
          exact ⟨by rw [HR.out]; rfl, Below.setCell (Below.setCell HB.out (Nat.le_refl _) _) (Nat.le_refl _) _⟩
  · rw [show ((8 : Nat) : Int) = 8 from rfl] at hm
    go_enter Tryd.func30, Tryd.ntmps30
    rcases hsg with ⟨hs, hv⟩ | ⟨hs, hv⟩
    · have HSG := Aside0.mk hs
      rw [hv] at HS
      have hs2 := (HY.out.set 0 hlw 128).set 0 (by rw [List.length_set]; exact hlw) (signB n)
      rw [List.set_set, base_first 8 n (by decide), hv] at hs2
      have HS2 := Aside0.mk hs2
      clear hs2
      have B0 := Aside0.mk (Below.setCell HB1.out (p := ⟨w.heap.size + 1, 0, none⟩) (Nat.le_succ _) (.int .u8 255))
      have H0 := Aside0.mk (blk_miss (g' := w.heap.size + 1) (i := 0) (v := .int .u8 255) H1.out (Nat.succ_ne_self _).symm)
      go_wp2_with fail
      go_loopw [6] (fun v wr => ∃ i : Nat, 1 ≤ i ∧ i ≤ 8 ∧ v = .int .i64 (i : Int) ∧ Aside0 (Bytes wr (w.heap.size + 1) (baseTo 8 n i)) ∧ Aside0 (wr.heap[w.heap.size]? = some (.cells #[.string ⟨#[]⟩, .bool false] 38)) ∧ Aside0 (Below w.heap.size w wr)) (fun v _ => 8 - (intOf v).toNat)
      case atStart => exact ⟨1, by omega, by omega, rfl, by first | exact HS | exact HS2, ⟨by first | exact blk_miss (blk_miss H1.out (Nat.succ_ne_self _).symm) (Nat.succ_ne_self _).symm | exact blk_miss H1.out (Nat.succ_ne_self _).symm⟩, ⟨by first | exact Below.setCell HB1.out (Nat.le_succ _) _ | exact Below.setCell (Below.setCell HB1.out (Nat.le_succ _) _) (Nat.le_succ _) _⟩⟩
      case round =>
        obtain ⟨i, hi1, hi2, rfl, HY, HH, HB⟩ := hrel
        by_cases hlt : i < 8
        · have hli : i < (baseTo 8 n i).length := by rw [baseTo_length 8 n i (by decide) hi2]; exact hlt
          have c0 := HY.out.cell i hli
          have f0 := HY.out.free i hli
          have l0 := HY.out.lt
          have hbi := baseL_at 8 n i hi1 hlt
          have HST := Aside0.mk (fun (c : UInt8) (hc : (baseL 8 n)[i]? = some c) => show Bytes (wr.setCell ⟨w.heap.size + 1, i, none⟩ (.int .u8 c.toNat)) (w.heap.size + 1) (baseTo 8 n (i + 1)) from by rw [← baseTo_step 8 n i hlt c hc]; exact HY.out.set i hli c)
          have HSK := Aside0.mk (fun (hc : (baseL 8 n)[i]? = some 0) => show Bytes wr (w.heap.size + 1) (baseTo 8 n (i + 1)) from by
            rw [← baseTo_step 8 n i hlt 0 hc, show (baseTo 8 n i).set i 0 = baseTo 8 n i from base_skip 8 n i hlt]; exact HY.out)
          have HM := Aside0.mk (fun (c : Value) => blk_miss (g' := w.heap.size + 1) (i := i) (v := c) HH.out (Nat.succ_ne_self _).symm)
          have HBI := Aside0.mk hbi
          clear hbi HY
          have hcases : i = 1 ∨ i = 2 ∨ i = 3 ∨ i = 4 ∨ i = 5 ∨ i = 6 ∨ i = 7 := by omega
          rcases hcases with rfl | rfl | rfl | rfl | rfl | rfl | rfl
          · go_wp2_with fail
            exact ⟨⟨1 + 1, by omega, by omega, rfl, ⟨by have h := HST.out _ HBI.out; rw [u8_of] at h; simpa using h⟩, ⟨HM.out _⟩, ⟨HB.out.setCell (Nat.le_succ _) _⟩⟩, by simp [intOf]⟩
          · go_wp2_with fail
            exact ⟨⟨2 + 1, by omega, by omega, rfl, ⟨by have h := HST.out _ HBI.out; rw [u8_of] at h; simpa using h⟩, ⟨HM.out _⟩, ⟨HB.out.setCell (Nat.le_succ _) _⟩⟩, by simp [intOf]⟩
          · go_wp2_with fail
            exact ⟨⟨3 + 1, by omega, by omega, rfl, ⟨by have h := HST.out _ HBI.out; rw [u8_of] at h; simpa using h⟩, ⟨HM.out _⟩, ⟨HB.out.setCell (Nat.le_succ _) _⟩⟩, by simp [intOf]⟩
          · go_wp2_with fail
            exact ⟨⟨4 + 1, by omega, by omega, rfl, ⟨by have h := HST.out _ HBI.out; rw [u8_of] at h; simpa using h⟩, ⟨HM.out _⟩, ⟨HB.out.setCell (Nat.le_succ _) _⟩⟩, by simp [intOf]⟩
          · go_wp2_with fail
            exact ⟨⟨5 + 1, by omega, by omega, rfl, ⟨by have h := HST.out _ HBI.out; rw [u8_of] at h; simpa using h⟩, ⟨HM.out _⟩, ⟨HB.out.setCell (Nat.le_succ _) _⟩⟩, by simp [intOf]⟩
          · go_wp2_with fail
            exact ⟨⟨6 + 1, by omega, by omega, rfl, ⟨by have h := HST.out _ HBI.out; rw [u8_of] at h; simpa using h⟩, ⟨HM.out _⟩, ⟨HB.out.setCell (Nat.le_succ _) _⟩⟩, by simp [intOf]⟩
          · go_wp2_with fail
            exact ⟨⟨7 + 1, by omega, by omega, rfl, ⟨by have h := HST.out _ HBI.out; rw [u8_of] at h; simpa using h⟩, ⟨HM.out _⟩, ⟨HB.out.setCell (Nat.le_succ _) _⟩⟩, by simp [intOf]⟩
        · obtain rfl : i = 8 := by omega
          have HY2 := HY.out
          rw [baseTo_all 8 n (by decide)] at HY2
          obtain ⟨L, hL⟩ : ∃ L, baseL 8 n = L := ⟨_, rfl⟩
          have hLl : L.length = 8 := by rw [← hL]; exact baseL_length _ _ (by decide)
          rw [hL] at HY2
          have HR := Aside0.mk (show res = saidR (some L) by rw [HRES.out, hL])
          have hbk := HY2.back (P := Tryd.prog) 34 9 5 8 8 hLl.symm Tryd.underlying34 Tryd.underlying5 Tryd.underlying9
          have d0 : wr.cell? ⟨w.heap.size, 0, none⟩ = some (.string ⟨#[]⟩) := blk_cell HH.out 0
          have d1 : wr.cell? ⟨w.heap.size, 1, none⟩ = some (.bool false) := blk_cell HH.out 1
          have k0 := blk_frozen HH.out 0
          have k1 := blk_frozen HH.out 1
          have lh := blk_lt HH.out
          clear HY2 hL hLl
          go_wp2_with fail
          have a1 := blk_hit (i := 0) (v := .string (mkS L)) HH.out
          have a2 := blk_hit (i := 1) (v := .bool true) a1
          simp only [List.setIfInBounds_toArray, List.set_cons_zero, List.set_cons_succ] at a2
          refine bodyPost_ret (base_res w.heap.size _ _ _ _ rfl a2) rfl ?_
          exact ⟨by rw [HR.out]; rfl, Below.setCell (Below.setCell HB.out (Nat.le_refl _) _) (Nat.le_refl _) _⟩
    · have HSG := Aside0.mk hs
      rw [hv] at HS
      go_wp2_with fail
      go_loopw [6] (fun v wr => ∃ i : Nat, 1 ≤ i ∧ i ≤ 8 ∧ v = .int .i64 (i : Int) ∧ Aside0 (Bytes wr (w.heap.size + 1) (baseTo 8 n i)) ∧ Aside0 (wr.heap[w.heap.size]? = some (.cells #[.string ⟨#[]⟩, .bool false] 38)) ∧ Aside0 (Below w.heap.size w wr)) (fun v _ => 8 - (intOf v).toNat)
      case atStart => exact ⟨1, by omega, by omega, rfl, by first | exact HS | exact HS2, ⟨by first | exact blk_miss (blk_miss H1.out (Nat.succ_ne_self _).symm) (Nat.succ_ne_self _).symm | exact blk_miss H1.out (Nat.succ_ne_self _).symm⟩, ⟨by first | exact Below.setCell HB1.out (Nat.le_succ _) _ | exact Below.setCell (Below.setCell HB1.out (Nat.le_succ _) _) (Nat.le_succ _) _⟩⟩
      case round =>
        obtain ⟨i, hi1, hi2, rfl, HY, HH, HB⟩ := hrel
        by_cases hlt : i < 8
        · have hli : i < (baseTo 8 n i).length := by rw [baseTo_length 8 n i (by decide) hi2]; exact hlt
          have c0 := HY.out.cell i hli
          have f0 := HY.out.free i hli
          have l0 := HY.out.lt
          have hbi := baseL_at 8 n i hi1 hlt
          have HST := Aside0.mk (fun (c : UInt8) (hc : (baseL 8 n)[i]? = some c) => show Bytes (wr.setCell ⟨w.heap.size + 1, i, none⟩ (.int .u8 c.toNat)) (w.heap.size + 1) (baseTo 8 n (i + 1)) from by rw [← baseTo_step 8 n i hlt c hc]; exact HY.out.set i hli c)
          have HSK := Aside0.mk (fun (hc : (baseL 8 n)[i]? = some 0) => show Bytes wr (w.heap.size + 1) (baseTo 8 n (i + 1)) from by
            rw [← baseTo_step 8 n i hlt 0 hc, show (baseTo 8 n i).set i 0 = baseTo 8 n i from base_skip 8 n i hlt]; exact HY.out)
          have HM := Aside0.mk (fun (c : Value) => blk_miss (g' := w.heap.size + 1) (i := i) (v := c) HH.out (Nat.succ_ne_self _).symm)
          have HBI := Aside0.mk hbi
          clear hbi HY
          have hcases : i = 1 ∨ i = 2 ∨ i = 3 ∨ i = 4 ∨ i = 5 ∨ i = 6 ∨ i = 7 := by omega
          rcases hcases with rfl | rfl | rfl | rfl | rfl | rfl | rfl
          · go_wp2_with fail
            exact ⟨⟨1 + 1, by omega, by omega, rfl, ⟨by have h := HST.out _ HBI.out; rw [u8_of] at h; simp only [Nat.reduceSub, Int.reducePow] at h; rw [show n / 281474976710656 % 256 = n / 281474976710656 by have := HSG.out; omega] at h; simpa using h⟩, ⟨HM.out _⟩, ⟨HB.out.setCell (Nat.le_succ _) _⟩⟩, by simp [intOf]⟩
          · go_wp2_with fail
            exact ⟨⟨2 + 1, by omega, by omega, rfl, ⟨by have h := HST.out _ HBI.out; rw [u8_of] at h; simpa using h⟩, ⟨HM.out _⟩, ⟨HB.out.setCell (Nat.le_succ _) _⟩⟩, by simp [intOf]⟩
          · go_wp2_with fail
            exact ⟨⟨3 + 1, by omega, by omega, rfl, ⟨by have h := HST.out _ HBI.out; rw [u8_of] at h; simpa using h⟩, ⟨HM.out _⟩, ⟨HB.out.setCell (Nat.le_succ _) _⟩⟩, by simp [intOf]⟩
          · go_wp2_with fail
            exact ⟨⟨4 + 1, by omega, by omega, rfl, ⟨by have h := HST.out _ HBI.out; rw [u8_of] at h; simpa using h⟩, ⟨HM.out _⟩, ⟨HB.out.setCell (Nat.le_succ _) _⟩⟩, by simp [intOf]⟩
          · go_wp2_with fail
            exact ⟨⟨5 + 1, by omega, by omega, rfl, ⟨by have h := HST.out _ HBI.out; rw [u8_of] at h; simpa using h⟩, ⟨HM.out _⟩, ⟨HB.out.setCell (Nat.le_succ _) _⟩⟩, by simp [intOf]⟩
          · go_wp2_with fail
            exact ⟨⟨6 + 1, by omega, by omega, rfl, ⟨by have h := HST.out _ HBI.out; rw [u8_of] at h; simpa using h⟩, ⟨HM.out _⟩, ⟨HB.out.setCell (Nat.le_succ _) _⟩⟩, by simp [intOf]⟩
          · go_wp2_with fail
            exact ⟨⟨7 + 1, by omega, by omega, rfl, ⟨by have h := HST.out _ HBI.out; rw [u8_of] at h; simpa using h⟩, ⟨HM.out _⟩, ⟨HB.out.setCell (Nat.le_succ _) _⟩⟩, by simp [intOf]⟩
        · obtain rfl : i = 8 := by omega
          have HY2 := HY.out
          rw [baseTo_all 8 n (by decide)] at HY2
          obtain ⟨L, hL⟩ : ∃ L, baseL 8 n = L := ⟨_, rfl⟩
          have hLl : L.length = 8 := by rw [← hL]; exact baseL_length _ _ (by decide)
          rw [hL] at HY2
          have HR := Aside0.mk (show res = saidR (some L) by rw [HRES.out, hL])
          have hbk := HY2.back (P := Tryd.prog) 34 9 5 8 8 hLl.symm Tryd.underlying34 Tryd.underlying5 Tryd.underlying9
          have d0 : wr.cell? ⟨w.heap.size, 0, none⟩ = some (.string ⟨#[]⟩) := blk_cell HH.out 0
          have d1 : wr.cell? ⟨w.heap.size, 1, none⟩ = some (.bool false) := blk_cell HH.out 1
          have k0 := blk_frozen HH.out 0
          have k1 := blk_frozen HH.out 1
          have lh := blk_lt HH.out
          clear HY2 hL hLl
          go_wp2_with fail
          have a1 := blk_hit (i := 0) (v := .string (mkS L)) HH.out
          have a2 := blk_hit (i := 1) (v := .bool true) a1
          simp only [List.setIfInBounds_toArray, List.set_cons_zero, List.set_cons_succ] at a2
          refine bodyPost_ret (base_res w.heap.size _ _ _ _ rfl a2) rfl ?_
          exact ⟨by rw [HR.out]; rfl, Below.setCell (Below.setCell HB.out (Nat.le_refl _) _) (Nat.le_refl _) _⟩
end Go.Proofs.YtpmiddhdgidimaaDoor
