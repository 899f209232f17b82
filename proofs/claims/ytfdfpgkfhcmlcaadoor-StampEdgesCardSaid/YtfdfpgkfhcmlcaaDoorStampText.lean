/- stamp.May, stamp.Text. -/
import Derived.Test.YtfdfpgkfhcmlcaaDoorStampPlain
import Derived.Test.YtfdfpgkfhcmlcaaDoorGood
import Derived.Test.YtfdfpgkfhcmlcaaDoorStr
set_option linter.unusedVariables false
set_option linter.unusedSimpArgs false
namespace Go.Proofs.YtfdfpgkfhcmlcaaDoor
open Go.RowKit Go.Proofs.YtfdfpgkfhcmlcaaDoorW.PrintWords

theorem str_add {P : Program} {a b c : List UInt8} {s t : ByteArray} (hs : s = mkS a) (ht : t = mkS b) (hc : a ++ b = c) (h : c.length ≤ 9223372036854775807) (W : World) : (Op.stringOp .add s t).run P W = .ok (.string (mkS c)) W := by
  subst hs ht hc
  rw [run_string_add_sum _ _ _ (by simp at h ⊢; exact h), append_mkS]
theorem cut_any (l : List UInt8) (c : UInt8) (a b : List UInt8) (f : Bool) (h : cutAt c l = (a, b, f)) (w : World) (hG : Good w) (hs : l.length < 4294967281) :
    Calls Tryd.prog 27 #[.string (mkS l), .string ⟨#[c]⟩] w fun e w' => e = .returned (.tuple #[.string (mkS a), .string (mkS b), .bool f]) ∧ Below w.heap.size w w' := by
  have h1 := Tryd.strings_Cut_shaped (mkS l) ⟨#[c]⟩ w hG.shaped (by simpa using hs)
  have e : Lib.cut (mkS l).data.toList (⟨#[c]⟩ : ByteArray).data.toList = (a, b, f) := by rw [data_mkS, ← h]; exact cut_one c l
  rw [e] at h1
  exact h1.mono fun e w' ⟨he, n, hw⟩ => ⟨he, hw ▸ below_drewN (Below.refl _ _) n⟩
theorem trimRight_any (l t : List UInt8) (h : Lib.trimRightB l 48 = t) (w : World) (hs : l.length ≤ 1000000) :
    Calls Tryd.prog 25 #[.string (mkS l), .string ⟨#[48]⟩] w fun e w' => e = .returned (.string (mkS t)) ∧ w' = w := by
  have h1 := Tryd.strings_TrimRight_one (mkS l) 48 (by decide) w (by simp; omega)
  rw [data_mkS, h] at h1
  exact h1
theorem repeat_any (c : Nat) (i : Int) (hi : i = c) (w : World) (hc : c ≤ 1000000) :
    Calls Tryd.prog 26 #[.string ⟨#[48]⟩, .int .i64 i] w fun e w' => e = .returned (.string (mkS (List.replicate c 48))) ∧ Below w.heap.size w w' := by
  subst hi
  have h1 := Tryd.strings_Repeat ⟨#[48]⟩ c w (by omega) (by simp [ByteArray.size]; omega)
  have e : Lib.repeatL (⟨#[48]⟩ : ByteArray).data.toList c = List.replicate c 48 := by
    have := Lib.repeatL_replicate 48 1 c
    rw [Nat.mul_one] at this
    exact this
  rw [e] at h1
  exact h1
theorem may_is (s n : Int) (b : Bool) (h : mayT s n = b) (w : World) :
    Calls Tryd.prog 13 #[.agg #[.int .i64 s, .int .i64 n]] w fun e w' => e = .returned (.bool b) ∧ Below w.heap.size w w' := by
  have HB0 := Aside0.mk (below_alloc (Below.refl w.heap.size w) (.cells #[.int .i64 s, .int .i64 n] 24))
  have H := Aside0.mk h
  clear h
  by_cases h1 : -1099511627776 ≤ s
  · by_cases h2 : s ≤ 1099511627776
    · by_cases h3 : 0 ≤ n
      · by_cases h4 : n < 1000000000
        · go_enter Tryd.func13, Tryd.ntmps13
          go_wp2_with fail
          go_ret
          exact ⟨by rw [← H.out, may_iffT.2 ⟨h1, h2, h3, h4⟩]; rfl, HB0.out⟩
        · have h4' : 1000000000 ≤ n := by omega
          have HF := Aside0.mk (show mayT s n = false from Bool.eq_false_iff.2 fun e => h4 (may_iffT.1 e).2.2.2)
          go_enter Tryd.func13, Tryd.ntmps13
          go_wp2_with fail
          go_ret
          exact ⟨by rw [← H.out, HF.out]; rfl, HB0.out⟩
      · have h3' : n < 0 := by omega
        have HF := Aside0.mk (show mayT s n = false from Bool.eq_false_iff.2 fun e => h3 (may_iffT.1 e).2.2.1)
        go_enter Tryd.func13, Tryd.ntmps13
        go_wp2_with fail
        go_ret
        exact ⟨by rw [← H.out, HF.out]; rfl, HB0.out⟩
    · have h2' : 1099511627776 < s := by omega
      have HF := Aside0.mk (show mayT s n = false from Bool.eq_false_iff.2 fun e => h2 (may_iffT.1 e).2.1)
      go_enter Tryd.func13, Tryd.ntmps13
      go_wp2_with fail
      go_ret
      exact ⟨by rw [← H.out, HF.out]; rfl, HB0.out⟩
  · have h1' : s < -1099511627776 := by omega
    have HF := Aside0.mk (show mayT s n = false from Bool.eq_false_iff.2 fun e => h1 (may_iffT.1 e).1)
    go_enter Tryd.func13, Tryd.ntmps13
    go_wp2_with fail
    go_ret
    exact ⟨by rw [← H.out, HF.out]; rfl, HB0.out⟩
set_option maxHeartbeats 1000000 in
set_option maxRecDepth 100000 in
theorem text_any (s n : Int) (w : World) (hG : Good w) (hm : mayT s n = true) :
    Calls Tryd.prog 10 #[.agg #[.int .i64 s, .int .i64 n]] w fun e w' => e = .returned (.string (mkS (textT s n))) ∧ Below w.heap.size w w' := by
  have hw := whole_le hm
  have hp := part_lt hm
  have hz := part_zero hm
  have hpad := padded_len hp
  obtain ⟨q1, q2, q3, q4⟩ := may_iffT.1 hm
  have ht : textT s n = (signT s ++ Lib.decDigits (wholeT s n)) ++ (if partT s n = 0 then [] else 46 :: fracT (partT s n)) := rfl
  have hdl := Lib.decDigits_length (wholeT s n)
  have hd20 := Lib.nDigits_le20 (wholeT s n) (by omega)
  have hrl := dec_len9 hp
  have hfl := (pad_frac hp).2
  obtain ⟨W, hW⟩ : ∃ W, wholeT s n = W := ⟨_, rfl⟩
  obtain ⟨R, hR⟩ : ∃ R, partT s n = R := ⟨_, rfl⟩
  obtain ⟨ds, hds⟩ : ∃ ds, Lib.decDigits W = ds := ⟨_, rfl⟩
  obtain ⟨rs, hrs⟩ : ∃ rs, Lib.decDigits R = rs := ⟨_, rfl⟩
  have hFd : fracT R = Lib.trimRightB (List.replicate (9 - rs.length) 48 ++ rs) 48 := by unfold fracT; rw [hrs]
  rw [hW, hR, hds] at ht
  rw [hW, hds] at hdl
  rw [hW] at hw hd20
  rw [hR] at hp hz hrl hfl
  rw [hrs] at hrl
  obtain ⟨fs, hfs⟩ : ∃ fs, fracT R = fs := ⟨_, rfl⟩
  rw [hfs] at ht hFd hfl
  have HWI := Aside0.mk (show ∀ i : Int, i = W → Lib.itoa i = ds from fun i hi => by rw [hi, num_itoa (by omega), Int.toNat_natCast, hds])
  have HRI := Aside0.mk (show ∀ i : Int, i = R → Lib.itoa i = rs from fun i hi => by rw [hi, num_itoa (by omega), Int.toNat_natCast, hrs])
  have hdl2 : ds.length ≤ 20 := by omega
  have hrl' : (rs.length : Int) ≤ 9 := by omega
  have hsub : (9 : Int) - (rs.length : Int) = ((9 - rs.length : Nat) : Int) := by omega
  obtain ⟨zs, hzs⟩ : ∃ zs, List.replicate (9 - rs.length) (48 : UInt8) = zs := ⟨_, rfl⟩
  have hzl : zs.length = 9 - rs.length := by rw [← hzs]; simp
  rw [hzs] at hFd
  obtain ⟨ps, hps⟩ : ∃ ps, zs ++ rs = ps := ⟨_, rfl⟩
  rw [hps] at hFd
  have hpl : ps.length = 9 := by rw [← hps]; simp; omega
  have a3 := fun W => str_add (P := Tryd.prog) (s := mkS zs) (t := mkS rs) (a := zs) (b := rs) rfl rfl hps (by omega) W
  have HZ := Aside0.mk hzs
  have HF := Aside0.mk hFd.symm
  have HG := Aside0.mk hG
  clear hG hds hrs hfs hFd hzs hps hdl hd20 hm hpad
  by_cases hs : s < 0
  · have e1 : signT s = [45] := by unfold signT; rw [if_pos hs]
    obtain ⟨xs, hxs⟩ : ∃ xs, [45] ++ ds = xs := ⟨_, rfl⟩
    rw [e1, hxs] at ht
    have hxl : xs.length = ds.length + 1 := by rw [← hxs]; simp
    have a1 := fun W => str_add (P := Tryd.prog) (s := ⟨#[45]⟩) (t := mkS ds) (a := [45]) (b := ds) rfl rfl hxs (by omega) W
    clear e1 hxs
    by_cases hn : n = 0
    · obtain rfl : R = 0 := by omega
      obtain rfl : s = -(W : Int) := by unfold wholeT at hW; rw [if_pos hs, if_neg (by omega)] at hW; omega
      subst hn
      rw [if_pos rfl, List.append_nil] at ht
      have HT := Aside0.mk ht
      clear ht hW hR
      have hwn : IntKind.i64.wrap (-(-(W : Int))) = (W : Int) := by rw [IntKind.wrap_i64]; omega
      go_enter Tryd.func10, Tryd.ntmps10
      go_wp2_with fail
      go_region_law fail
      have HB0 := Aside0.mk (below_drew (below_alloc (Below.refl w.heap.size w) (.cells #[.int .i64 (W : Int), .int .i64 0] 24)))
      have g0 := blk_drew (heap_alloc_new w (.cells #[.int .i64 (W : Int), .int .i64 0] 24))
      go_wp2_with (go_at_call 24; refine (itoa_any _ _ (HG.out.below HB0.out) (by omega) (by omega)).mono ?_; rintro e w1 ⟨rfl, hb1⟩; rw [HWI.out _ rfl]; have g1 := (hb1.block _ (blk_lt g0)).trans g0; have c0 := blk_cell g1 0; have c1 := blk_cell g1 1)
      go_ret
      exact ⟨by rw [HT.out]; rfl, below_next HB0.out hb1⟩
    · have hR0 : ¬ R = 0 := by omega
      rw [if_neg hR0] at ht
      have hn0 : 0 < n := by omega
      obtain ⟨V, hV⟩ : ∃ V : Nat, s = -(V : Int) := ⟨(-s).toNat, by omega⟩
      have hVW : (V : Int) - 1 = (W : Int) := by unfold wholeT at hW; rw [if_pos hs, if_pos hn0] at hW; omega
      have hnr : 1000000000 - n = (R : Int) := by unfold partT at hR; rw [if_pos hs, if_pos hn0] at hR; omega
      subst hV
      have hwV : IntKind.i64.wrap (V : Int) = (V : Int) := by rw [IntKind.wrap_i64]; omega
      have hwW : IntKind.i64.wrap (W : Int) = (W : Int) := by rw [IntKind.wrap_i64]; omega
      have hwR : IntKind.i64.wrap (R : Int) = (R : Int) := by rw [IntKind.wrap_i64]; omega
      obtain ⟨y1, hy1⟩ : ∃ y1, xs ++ [46] = y1 := ⟨_, rfl⟩
      have hy1l : y1.length = xs.length + 1 := by rw [← hy1]; simp
      obtain ⟨y2, hy2⟩ : ∃ y2, y1 ++ fs = y2 := ⟨_, rfl⟩
      have hy2l : y2.length = y1.length + fs.length := by rw [← hy2]; simp
      have a2 := fun W => str_add (P := Tryd.prog) (s := mkS xs) (t := ⟨#[46]⟩) (a := xs) (b := [46]) rfl rfl hy1 (by omega) W
      have a4 := fun W => str_add (P := Tryd.prog) (s := mkS y1) (t := mkS fs) (a := y1) (b := fs) rfl rfl hy2 (by omega) W
      have HT := Aside0.mk (show textT _ _ = y2 by rw [ht, ← hy2, ← hy1]; simp)
      have hRi : ((R : Int) == 0) = false := by simp; omega
      have HSUB := Aside0.mk hsub
      clear ht hz hW hR hy1 hy2 hsub hn hR0
      go_enter Tryd.func10, Tryd.ntmps10
      go_wp2_with fail
      go_region_law fail
      have HB0 := Aside0.mk (below_drew (below_alloc (Below.refl w.heap.size w) (.cells #[.int .i64 (W : Int), .int .i64 (R : Int)] 24)))
      have g0 := blk_drew (heap_alloc_new w (.cells #[.int .i64 (W : Int), .int .i64 (R : Int)] 24))
      go_wp2_with (first
        | (go_at_call 24; refine (itoa_any _ _ (HG.out.below HB1.out) (by omega) (by omega)).mono ?_; rintro e w2 ⟨rfl, hb2⟩; rw [HRI.out _ rfl]; have HB2 := Aside0.mk (below_next HB1.out hb2))
        | (go_at_call 24; refine (itoa_any _ _ (HG.out.below HB0.out) (by omega) (by omega)).mono ?_; rintro e w1 ⟨rfl, hb1⟩; rw [HWI.out _ rfl]; have g1 := (hb1.block _ (blk_lt g0)).trans g0; have c0 := blk_cell g1 0; have c1 := blk_cell g1 1; have HB1 := Aside0.mk (below_next HB0.out hb1))
        | (go_at_call 26; refine (repeat_any (9 - rs.length) _ HSUB.out _ (by omega)).mono ?_; rintro e w3 ⟨rfl, hb3⟩; rw [HZ.out]; have HB3 := Aside0.mk (below_next HB2.out hb3))
        | (go_at_call 25; refine (trimRight_any ps fs HF.out _ (by omega)).mono ?_; rintro e w4 ⟨rfl, rfl⟩))
      go_ret
      exact ⟨by rw [HT.out]; rfl, HB3.out⟩
  · have e1 : signT s = [] := by unfold signT; rw [if_neg hs]
    rw [e1, List.nil_append] at ht
    have a1 := fun W => str_add (P := Tryd.prog) (s := ⟨#[]⟩) (t := mkS ds) (a := []) (b := ds) (c := ds) rfl rfl rfl (by omega) W
    clear e1
    obtain rfl : s = (W : Int) := by unfold wholeT at hW; rw [if_neg hs] at hW; omega
    by_cases hn : n = 0
    · subst hn
      obtain rfl : R = 0 := by omega
      rw [if_pos rfl, List.append_nil] at ht
      have HT := Aside0.mk ht
      have HB0 := Aside0.mk (below_alloc (Below.refl w.heap.size w) (.cells #[.int .i64 (W : Int), .int .i64 0] 24))
      have g0 := heap_alloc_new w (.cells #[.int .i64 (W : Int), .int .i64 0] 24)
      clear ht hz hW hR
      go_enter Tryd.func10, Tryd.ntmps10
      go_wp2_with (go_at_call 24; refine (itoa_any _ _ (HG.out.below HB0.out) (by omega) (by omega)).mono ?_; rintro e w1 ⟨rfl, hb1⟩; rw [HWI.out _ rfl]; have g1 := (hb1.block _ (blk_lt g0)).trans g0; have c0 := blk_cell g1 0; have c1 := blk_cell g1 1)
      go_ret
      exact ⟨by rw [HT.out]; rfl, below_next HB0.out hb1⟩
    · have hR0 : ¬ R = 0 := by omega
      rw [if_neg hR0] at ht
      obtain rfl : n = (R : Int) := by unfold partT at hR; rw [if_neg hs] at hR; omega
      obtain ⟨y1, hy1⟩ : ∃ y1, ds ++ [46] = y1 := ⟨_, rfl⟩
      have hy1l : y1.length = ds.length + 1 := by rw [← hy1]; simp
      obtain ⟨y2, hy2⟩ : ∃ y2, y1 ++ fs = y2 := ⟨_, rfl⟩
      have hy2l : y2.length = y1.length + fs.length := by rw [← hy2]; simp
      have a2 := fun W => str_add (P := Tryd.prog) (s := mkS ds) (t := ⟨#[46]⟩) (a := ds) (b := [46]) rfl rfl hy1 (by omega) W
      have a4 := fun W => str_add (P := Tryd.prog) (s := mkS y1) (t := mkS fs) (a := y1) (b := fs) rfl rfl hy2 (by omega) W
      have HT := Aside0.mk (show textT _ _ = y2 by rw [ht, ← hy2, ← hy1]; simp)
      have HB0 := Aside0.mk (below_alloc (Below.refl w.heap.size w) (.cells #[.int .i64 (W : Int), .int .i64 (R : Int)] 24))
      have g0 := heap_alloc_new w (.cells #[.int .i64 (W : Int), .int .i64 (R : Int)] 24)
      have hRi : ((R : Int) == 0) = false := by simp; omega
      have HSUB := Aside0.mk hsub
      clear ht hz hW hR hy1 hy2 hsub
      go_enter Tryd.func10, Tryd.ntmps10
      go_wp2_with (first
        | (go_at_call 24; refine (itoa_any _ _ (HG.out.below HB1.out) (by omega) (by omega)).mono ?_; rintro e w2 ⟨rfl, hb2⟩; rw [HRI.out _ rfl]; have HB2 := Aside0.mk (below_next HB1.out hb2))
        | (go_at_call 24; refine (itoa_any _ _ (HG.out.below HB0.out) (by omega) (by omega)).mono ?_; rintro e w1 ⟨rfl, hb1⟩; rw [HWI.out _ rfl]; have g1 := (hb1.block _ (blk_lt g0)).trans g0; have c0 := blk_cell g1 0; have c1 := blk_cell g1 1; have HB1 := Aside0.mk (below_next HB0.out hb1))
        | (go_at_call 26; refine (repeat_any (9 - rs.length) _ HSUB.out _ (by omega)).mono ?_; rintro e w3 ⟨rfl, hb3⟩; rw [HZ.out]; have HB3 := Aside0.mk (below_next HB2.out hb3))
        | (go_at_call 25; refine (trimRight_any ps fs HF.out _ (by omega)).mono ?_; rintro e w4 ⟨rfl, rfl⟩))
      go_ret
      exact ⟨by rw [HT.out]; rfl, HB3.out⟩
end Go.Proofs.YtfdfpgkfhcmlcaaDoor
