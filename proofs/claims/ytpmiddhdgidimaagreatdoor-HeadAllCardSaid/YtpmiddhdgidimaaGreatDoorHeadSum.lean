/- head.text, field, sum. -/
import Derived.Test.YtpmiddhdgidimaaGreatDoorFmtOct
set_option linter.unusedVariables false
set_option linter.unusedSimpArgs false
namespace Go.Proofs.YtpmiddhdgidimaaGreatDoor
open Go.RowKit Go.Proofs.YtpmiddhdgidimaaGreatDoorW.PrintWords

theorem str_add {P : Program} {a b c : List UInt8} {s t : ByteArray} (hs : s = mkS a) (ht : t = mkS b) (hc : a ++ b = c) (h : c.length ≤ 9223372036854775807) (W : World) : (Op.stringOp .add s t).run P W = .ok (.string (mkS c)) W := by
  subst hs ht hc
  rw [run_string_add_sum _ _ _ (by simp at h ⊢; exact h), append_mkS]
theorem repeat_byte (x : UInt8) (c : Nat) (i : Int) (hi : i = c) (w : World) (hc : c ≤ 1000000) :
    Calls Tryz.prog 52 #[.string ⟨#[x]⟩, .int .i64 i] w fun e w' => e = .returned (.string (mkS (List.replicate c x))) ∧ Below w.heap.size w w' := by
  subst hi
  have h1 := Tryz.strings_Repeat ⟨#[x]⟩ c w (by omega) (by simp [ByteArray.size]; omega)
  have e : Lib.repeatL (⟨#[x]⟩ : ByteArray).data.toList c = List.replicate c x := by
    have := Lib.repeatL_replicate x 1 c
    rw [Nat.mul_one] at this
    exact this
  rw [e] at h1
  exact h1
theorem fmt8i_any (n : Nat) (hn : n < 262144) (w : World) (hG : Good w) :
    Calls Tryz.prog 75 #[.int .i64 (n : Int), .int .i64 8] w fun e w' => (∃ k, 1 ≤ k ∧ k ≤ 6 ∧ n < 8 ^ k ∧ e = .returned (.string (mkS (octD k n)))) ∧ Below w.heap.size w w' := by
  have hd : decide ((n : Int) < 0) = false := by simp
  have hw : IntKind.u64.wrap (n : Int) = (n : Int) := by rw [IntKind.wrap_u64]; omega
  have hw2 : (n : Int) % 18446744073709551616 = n := by omega
  go_enter Tryz.func75, Tryz.ntmps75
  go_wp2_with (go_at_call 98; refine (formatBits_any n hn _ hG).mono ?_; rintro e w1 ⟨⟨k, hk1, hk6, hnk, rfl⟩, hb1⟩)
  go_ret
  exact ⟨⟨k, hk1, hk6, hnk, rfl⟩, hb1⟩
theorem fmt8_any (n : Nat) (hn : n < 262144) (w : World) (hG : Good w) :
    Calls Tryz.prog 53 #[.int .i64 (n : Int), .int .i64 8] w fun e w' => (∃ k, 1 ≤ k ∧ k ≤ 6 ∧ n < 8 ^ k ∧ e = .returned (.string (mkS (octD k n)))) ∧ Below w.heap.size w w' := by
  go_enter Tryz.func53, Tryz.ntmps53
  go_wp2_with (go_at_call 75; refine (fmt8i_any n hn _ hG).mono ?_; rintro e w1 ⟨⟨k, hk1, hk6, hnk, rfl⟩, hb1⟩)
  go_ret
  exact ⟨⟨k, hk1, hk6, hnk, rfl⟩, hb1⟩
theorem text_any (l : List UInt8) (n : Nat) (w : World) (hl : l.length ≤ n) (hn : n ≤ 1000) :
    Calls Tryz.prog 30 #[.string (mkS l), .int .i64 (n : Int)] w fun e w' => e = .returned (.string (mkS (fill l n))) ∧ Below w.heap.size w w' := by
  obtain ⟨zs, hzs⟩ : ∃ zs, List.replicate (n - l.length) (0 : UInt8) = zs := ⟨_, rfl⟩
  obtain ⟨f, hf⟩ : ∃ f, l ++ zs = f := ⟨_, rfl⟩
  have hff : fill l n = f := by unfold fill; rw [hzs, hf]
  have hfl : f.length = n := by rw [← hff, fill_length _ _ hl]
  have a1 := fun W => str_add (P := Tryz.prog) (s := mkS l) (t := mkS zs) (a := l) (b := zs) rfl rfl hf (by omega) W
  have HSUB := Aside0.mk (show (n : Int) - (l.length : Int) = ((n - l.length : Nat) : Int) by omega)
  have HZ := Aside0.mk hzs
  rw [hff]
  clear hzs hf hff
  go_enter Tryz.func30, Tryz.ntmps30
  go_wp2_with (go_at_call 52; refine (repeat_byte 0 (n - l.length) _ HSUB.out _ (by omega)).mono ?_; rintro e w1 ⟨rfl, hb1⟩; rw [HZ.out])
  go_ret
  exact ⟨rfl, hb1⟩
theorem fieldH_any (n : Int) (wd : Nat) (w : World) (hw : wd = 8 ∨ wd = 12) (hn0 : -9223372036854775808 ≤ n) (hn : n ≤ 9223372036854775807) :
    Calls Tryz.prog 31 #[.int .i64 n, .int .i64 (wd : Int)] w fun e w' => e = .returned (.string (mkS (fld n wd))) ∧ Below w.heap.size w w' := by
  have h := fun W => Field_any n wd W hw hn0 hn
  unfold fld
  cases hf : fieldT n wd with
  | some l =>
    rw [hf] at h
    have H := Aside0.mk h
    clear h
    go_enter Tryz.func31, Tryz.ntmps31
    go_wp2_with (go_at_call 26; refine (H.out _).mono ?_; rintro e w1 ⟨rfl, hb1⟩; simp only [saidV])
    go_ret
    exact ⟨rfl, hb1⟩
  | none =>
    rw [hf] at h
    have H := Aside0.mk h
    clear h
    go_enter Tryz.func31, Tryz.ntmps31
    go_wp2_with (go_at_call 26; refine (H.out _).mono ?_; rintro e w1 ⟨rfl, hb1⟩; simp only [saidV])
    go_ret
    exact ⟨rfl, hb1⟩
theorem sumOf_snoc (l : List UInt8) (c : UInt8) : sumOf (l ++ [c]) = sumOf l + c.toNat := by unfold sumOf; rw [List.foldl_append]; rfl
set_option maxHeartbeats 2000000 in
set_option maxRecDepth 100000 in
theorem sum_any (s : List UInt8) (hs : s.length = 512) (w : World) (hG : Good w) :
    Calls Tryz.prog 32 #[.string (mkS s)] w fun e w' => e = .returned (.string (mkS (sumT (sumN (s.take 148) (s.drop 156))))) ∧ Below w.heap.size w w' := by
  obtain ⟨t, ht⟩ : ∃ t, s.take 148 ++ s.drop 156 = t := ⟨_, rfl⟩
  have htl : t.length = 504 := by rw [← ht, List.length_append, List.length_take, List.length_drop, hs]; rfl
  have hsum : sumN (s.take 148) (s.drop 156) = 256 + sumOf t := by unfold sumN; rw [← ht, sumOf_append]; omega
  have hx1 : (mkS s).extract 0 148 = mkS (s.take 148) := by rw [extract_mkS]; simp
  have hx2 : (mkS s).extract 156 s.length = mkS (s.drop 156) := by rw [extract_mkS, List.take_of_length_le (by rw [List.length_drop]; omega)]
  have hx3 : (mkS s).extract 156 512 = mkS (s.drop 156) := by rw [← hs]; exact hx2
  have a1 := fun W => str_add (P := Tryz.prog) (s := mkS (s.take 148)) (t := mkS (s.drop 156)) (a := s.take 148) (b := s.drop 156) rfl rfl ht (by omega) W
  obtain ⟨W0, cap, hcv, hb0, hz0, hY⟩ := conv_world (P := Tryz.prog) w.drew 9 40 5 (mkS t) Tryz.underlying9 Tryz.underlying40 Tryz.underlying5
  rw [data_mkS] at hY
  rw [size_mkS] at hcv
  have HG := Aside0.mk hG
  have hz : w.drew.heap.size = w.heap.size := rfl
  rw [hz] at hcv hY hz0
  have HB0 := Aside0.mk (show Below w.heap.size w W0 from below_next (below_drew (Below.refl w.heap.size w)) hb0)
  clear hb0 hz
  have HY := Aside0.mk hY
  have hst := sumOf_le t
  rw [htl] at hst
  rw [hsum]
  clear hG hY ht hsum
  go_enter Tryz.func32, Tryz.ntmps32
  go_wp2_with fail
  go_region
  go_wp2_with fail
  obtain ⟨g, hg⟩ : ∃ g, w.heap.size = g := ⟨_, rfl⟩
  rw [hg] at HY ⊢
  go_loopw [3, 14] (fun nv iv wr => ∃ (k X : Nat), k ≤ 504 ∧ iv = .int .i64 k ∧ nv = .int .i64 (X : Int) ∧ Aside0 (X = 256 + sumOf (t.take k)) ∧ wr = W0) (fun _ iv _ => 504 - (intOf iv).toNat)
  case atStart => exact ⟨0, 256, Nat.zero_le _, rfl, rfl, ⟨rfl⟩, rfl⟩
  case round =>
    obtain ⟨k, X, hk, rfl, rfl, HX, rfl⟩ := hrel
    have hXb : X < 262144 := by
      have h1 := sumOf_le (t.take k)
      rw [List.length_take] at h1
      rw [HX.out]; omega
    by_cases hlt : k < 504
    · have hkt : k < t.length := by omega
      have u0 := HY.out.cell k hkt
      obtain ⟨q, hq⟩ : ∃ q : Nat, (t.getD k 0).toNat = q := ⟨_, rfl⟩
      have hq2 : q < 256 := by rw [← hq]; exact UInt8.toNat_lt _
      rw [hq] at u0
      have HQ := Aside0.mk hq
      clear hq
      go_wp2_with fail
      go_roundw
      case measure => simp [intOf]; omega
      case rel =>
        refine ⟨k + 1, X + q, by omega, by go_num, rfl, ⟨?_⟩, trivial⟩
        rw [List.take_succ_eq_append_getElem hkt, sumOf_snoc, ← Nat.add_assoc, ← HX.out, ← HQ.out, List.getD_eq_getElem?_getD, List.getElem?_eq_getElem hkt]
        rfl
    · obtain rfl : k = 504 := by omega
      rw [List.take_of_length_le (by omega)] at HX
      have hpad : ∀ k, 1 ≤ k → k ≤ 6 → X < 8 ^ k → List.replicate (6 - k) 48 ++ octD k X = octD 6 X := fun k h1 h2 h3 => by
        have := octD_pad X k h3 (6 - k)
        rw [show k + (6 - k) = 6 by omega] at this
        exact this.symm
      have HP := Aside0.mk hpad
      have HG1 := Aside0.mk (HG.out.below HB0.out)
      have hb2 : (octD 6 X ++ [0, 32]).length = 8 := by rw [List.length_append, octD_length]; rfl
      have a2 := fun W => str_add (P := Tryz.prog) (s := mkS (octD 6 X)) (t := ⟨#[0, 32]⟩) (a := octD 6 X) (b := [0, 32]) rfl rfl rfl (by omega) W
      clear hpad a1 hx1 hx2 hx3
      go_wp2_with (first
        | (go_at_call 53; refine (fmt8_any X hXb _ HG1.out).mono ?_; rintro e w1 ⟨⟨kd, hk1, hk6, hnk, rfl⟩, hb1⟩; have hkl : (octD kd X).length = kd := octD_length kd X; have a3 := fun W => str_add (P := Tryz.prog) (s := mkS (List.replicate (6 - kd) 48)) (t := mkS (octD kd X)) (a := List.replicate (6 - kd) 48) (b := octD kd X) rfl rfl (HP.out kd hk1 hk6 hnk) (by rw [octD_length]; omega) W; have HS6 := Aside0.mk (show (6 : Int) - (kd : Int) = ((6 - kd : Nat) : Int) by omega); clear hnk)
        | (go_at_call 52; refine (repeat_byte 48 (6 - kd) _ HS6.out _ (by omega)).mono ?_; rintro e w2 ⟨rfl, hb2⟩))
      go_ret
      refine ⟨?_, below_next (below_next HB0.out hb1) hb2⟩
      unfold sumT
      rw [← HX.out]
      rfl
end Go.Proofs.YtpmiddhdgidimaaGreatDoor
