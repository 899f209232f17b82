/- The reference's CmpStamp and TextStamp. -/
import Derived.Test.YtfdfpgkfhcmlcaaDoorStampOrder
import Derived.Test.YtfdfpgkfhcmlcaaDoorStampBack
set_option linter.unusedVariables false
set_option linter.unusedSimpArgs false
namespace Go.Proofs.YtfdfpgkfhcmlcaaDoor
open Go.RowKit Go.Proofs.YtfdfpgkfhcmlcaaDoorW.PrintWords Go.Proofs.YtfdfpgkfhcmlcaaDoor.PStN
attribute [local go_sem high] eqAT

theorem cmpR_any (s n s' n' : Int) (w : World) :
    Calls Tryd.prog 18 #[.agg #[.int .i64 s, .int .i64 n], .agg #[.int .i64 s', .int .i64 n']] w fun e w' => e = .returned (.int .i64 (cmpT s n s' n')) ∧ Below w.heap.size w w' := by
  have HB0 := Aside0.mk (below_alloc (below_alloc (Below.refl w.heap.size w) (.cells #[.int .i64 s, .int .i64 n] 24)) (.cells #[.int .i64 s', .int .i64 n'] 24))
  rcases cmp_cases s n s' n' with ⟨hk, h | ⟨rfl, h⟩⟩ | ⟨hk, rfl, rfl⟩ | ⟨hk, h | ⟨rfl, h⟩⟩
  · have HK := Aside0.mk hk
    have hq : (s == s' && n == n') = false := by
      have : ¬ s = s' := by omega
      simp [this]
    clear hk
    go_enter Tryd.func18, Tryd.ntmps18
    go_wp2_with fail
    go_ret
    exact ⟨by rw [HK.out]; rfl, HB0.out⟩
  · have HK := Aside0.mk hk
    have hq : (n == n') = false := by
      have : ¬ n = n' := by omega
      simp [this]
    clear hk
    go_enter Tryd.func18, Tryd.ntmps18
    go_wp2_with fail
    go_ret
    exact ⟨by rw [HK.out]; rfl, HB0.out⟩
  · have HK := Aside0.mk hk
    clear hk
    go_enter Tryd.func18, Tryd.ntmps18
    go_wp2_with fail
    go_ret
    exact ⟨by rw [HK.out]; rfl, HB0.out⟩
  · have HK := Aside0.mk hk
    have hq : (s == s' && n == n') = false := by
      have : ¬ s = s' := by omega
      simp [this]
    have hlt : ¬ s < s' := by omega
    have hne : (s == s') = false := by simp; omega
    clear hk
    go_enter Tryd.func18, Tryd.ntmps18
    go_wp2_with fail
    go_ret
    exact ⟨by rw [HK.out]; rfl, HB0.out⟩
  · have HK := Aside0.mk hk
    have hq : (n == n') = false := by
      have : ¬ n = n' := by omega
      simp [this]
    have hlt : ¬ n < n' := by omega
    clear hk
    go_enter Tryd.func18, Tryd.ntmps18
    go_wp2_with fail
    go_ret
    exact ⟨by rw [HK.out]; rfl, HB0.out⟩
/- A rest in just so many places. -/
def padK : Nat → Nat → List UInt8
  | 0, _ => []
  | k + 1, r => padK k (r / 10) ++ [UInt8.ofNat (48 + r % 10)]
theorem padK_zero : ∀ k, padK k 0 = List.replicate k 48
  | 0 => rfl
  | k + 1 => by
    unfold padK
    rw [Nat.zero_div, padK_zero k, List.replicate_succ']
    rfl
theorem dec_over : ∀ (k r : Nat), r < 10 ^ k → Lib.decDigits (10 ^ k + r) = 49 :: padK k r
  | 0, r, h => by
    have : r = 0 := by simpa using h
    subst this
    rw [Lib.decDigits, dif_pos (by decide)]
    rfl
  | k + 1, r, h => by
    have hp : 0 < 10 ^ k := Nat.pow_pos (by decide)
    rw [Lib.decDigits, dif_neg (by rw [Nat.pow_succ]; omega)]
    rw [show (10 ^ (k + 1) + r) / 10 = 10 ^ k + r / 10 by rw [Nat.pow_succ]; omega, show (10 ^ (k + 1) + r) % 10 = r % 10 by rw [Nat.pow_succ]; omega, dec_over k (r / 10) (by rw [Nat.pow_succ] at h; omega)]
    rfl
theorem padK_dec : ∀ (k r : Nat), r < 10 ^ k → 0 < k → List.replicate (k - (Lib.decDigits r).length) 48 ++ Lib.decDigits r = padK k r
  | 0, r, _, hk => absurd hk (by omega)
  | k + 1, r, h, _ => by
    by_cases h10 : r < 10
    · rw [Lib.decDigits, dif_pos h10]
      unfold padK
      rw [show r / 10 = 0 by omega, padK_zero, show r % 10 = r by omega]
      rfl
    · have hk : 0 < k := by
        rcases Nat.eq_zero_or_pos k with e | e
        · subst e; simp at h; omega
        · exact e
      have ih := padK_dec k (r / 10) (by rw [Nat.pow_succ] at h; omega) hk
      rw [Lib.decDigits, dif_neg h10]
      unfold padK
      rw [← ih, List.length_append, List.length_singleton, Nat.add_sub_add_right, List.append_assoc]
theorem dec_padded {r : Nat} (h : r < 1000000000) : Lib.decDigits (1000000000 + r) = 49 :: padded r := by
  have h1 := dec_over 9 r (by simpa using h)
  have h2 := padK_dec 9 r (by simpa using h) (by decide)
  rw [show (10 : Nat) ^ 9 = 1000000000 by decide] at h1
  rw [h1, ← h2]
  rfl
theorem getElem_mkS (l : List UInt8) (i : Nat) (h : i < (mkS l).size) : (mkS l)[i]'h = l[i]'(by simpa using h) := by
  simp [mkS, ByteArray.getElem_eq_getElem_data]
theorem frac_split {r : Nat} (h : r < 1000000000) (h0 : r ≠ 0) : ∃ k, padded r = fracT r ++ List.replicate k 48 ∧ 0 < (fracT r).length ∧ (fracT r).length + k = 9 ∧ (fracT r).getD ((fracT r).length - 1) 0 ≠ 48 := by
  obtain ⟨k, hk, hl⟩ := trimRightB_spec (padded r) 48
  have e : fracT r = Lib.trimRightB (padded r) 48 := rfl
  rw [← e] at hk hl
  have hne := frac_ne h h0
  have hpos : 0 < (fracT r).length := List.length_pos_iff.2 hne
  have hlen := congrArg List.length hk
  rw [padded_len h, List.length_append, List.length_replicate] at hlen
  refine ⟨k, hk, hpos, by omega, hl _ ?_⟩
  rw [List.getLast?_eq_getElem?, List.getD_eq_getElem?_getD, List.getElem?_eq_getElem (by omega)]
  rfl
set_option maxHeartbeats 1000000 in
set_option maxRecDepth 100000 in
theorem textR_any (s n : Int) (w : World) (hm : mayT s n = true) :
    Calls Tryd.prog 16 #[.agg #[.int .i64 s, .int .i64 n]] w fun e w' => e = .returned (.string (mkS (textT s n))) ∧ Below w.heap.size w w' := by
  have hw := whole_le hm
  have hp := part_lt hm
  have hz := part_zero hm
  obtain ⟨q1, q2, q3, q4⟩ := may_iffT.1 hm
  have ht : textT s n = (signT s ++ Lib.decDigits (wholeT s n)) ++ (if partT s n = 0 then [] else 46 :: fracT (partT s n)) := rfl
  have hdl := Lib.decDigits_length (wholeT s n)
  have hd20 := Lib.nDigits_le20 (wholeT s n) (by omega)
  obtain ⟨W, hW⟩ : ∃ W, wholeT s n = W := ⟨_, rfl⟩
  obtain ⟨R, hR⟩ : ∃ R, partT s n = R := ⟨_, rfl⟩
  obtain ⟨ds, hds⟩ : ∃ ds, Lib.decDigits W = ds := ⟨_, rfl⟩
  rw [hW, hR, hds] at ht
  rw [hW, hds] at hdl
  rw [hW] at hw hd20
  rw [hR] at hp hz
  have hspl := frac_split hp
  have hov := dec_padded hp
  obtain ⟨fs, hfs⟩ : ∃ fs, fracT R = fs := ⟨_, rfl⟩
  obtain ⟨ps, hps⟩ : ∃ ps, padded R = ps := ⟨_, rfl⟩
  rw [hfs, hps] at hspl
  rw [hps] at hov
  rw [hfs] at ht
  have HWI := Aside0.mk (show gripsackref1_Digits.f 18 (W : Int) = some (mkS ds) by rw [digits_f _ 18 (by omega) (by omega) (by omega), num_itoa (by omega), Int.toNat_natCast, hds])
  have HRI := Aside0.mk (show gripsackref1_Digits.f 18 (1000000000 + (R : Int)) = some (mkS (49 :: ps)) by rw [digits_f _ 18 (by omega) (by omega) (by omega), num_itoa (by omega), show (1000000000 + (R : Int)).toNat = 1000000000 + R by omega, hov])
  have hdl2 : ds.length ≤ 20 := by omega
  have HSPL := Aside0.mk hspl
  clear hds hfs hps hdl hd20 hm hov hspl
  have HB0 := Aside0.mk (below_alloc (Below.refl w.heap.size w) (.cells #[.int .i64 s, .int .i64 n] 24))
  by_cases hs : s < 0
  · have e1 : signT s = [45] := by unfold signT; rw [if_pos hs]
    obtain ⟨xs, hxs⟩ : ∃ xs, [45] ++ ds = xs := ⟨_, rfl⟩
    rw [e1, hxs] at ht
    have hxl : xs.length = ds.length + 1 := by rw [← hxs]; simp
    have a1 := fun W => str_add (P := Tryd.prog) (s := ⟨#[45]⟩) (t := mkS ds) (a := [45]) (b := ds) rfl rfl hxs (by omega) W
    clear e1 hxs
    by_cases hn : n = 0
    · obtain rfl : R = 0 := by omega
      obtain rfl : s = -(W : Int) := by unfold wholeT at hW; rw [if_pos hs, if_neg (by omega)] at hW; omega
      subst hn
      rw [if_pos rfl, List.append_nil] at ht
      have HT := Aside0.mk ht
      clear ht hW hR hz
      have hwn : IntKind.i64.wrap (W : Int) = (W : Int) := by rw [IntKind.wrap_i64]; omega
      go_enter Tryd.func16, Tryd.ntmps16
      go_wp2_with fail
      go_quiet (fail)
      have HB1 := Aside0.mk (below_drewN HB0.out nq)
      go_wp2_with (go_at_call 19; refine (gripsackref1_Digits.calls 18 _ _ _ HWI.out).mono ?_; rintro e w1 ⟨rfl, hb1⟩)
      go_ret
      exact ⟨by rw [HT.out]; rfl, below_next HB1.out hb1⟩
    · have hR0 : ¬ R = 0 := by omega
      rw [if_neg hR0] at ht
      have hn0 : 0 < n := by omega
      obtain ⟨V, hV⟩ : ∃ V : Nat, s = -(V : Int) := ⟨(-s).toNat, by omega⟩
      have hVW : (V : Int) - 1 = (W : Int) := by unfold wholeT at hW; rw [if_pos hs, if_pos hn0] at hW; omega
      have hnr : 1000000000 - n = (R : Int) := by unfold partT at hR; rw [if_pos hs, if_pos hn0] at hR; omega
      subst hV
      have hwV : IntKind.i64.wrap (V : Int) = (V : Int) := by rw [IntKind.wrap_i64]; omega
      have hwW : IntKind.i64.wrap (W : Int) = (W : Int) := by rw [IntKind.wrap_i64]; omega
      have hwR : IntKind.i64.wrap (R : Int) = (R : Int) := by rw [IntKind.wrap_i64]; omega
      obtain ⟨y1, hy1⟩ : ∃ y1, xs ++ [46] = y1 := ⟨_, rfl⟩
      have hy1l : y1.length = xs.length + 1 := by rw [← hy1]; simp
      obtain ⟨k, hk, hfl, hfk, hlast⟩ := HSPL.out hR0
      obtain ⟨y2, hy2⟩ : ∃ y2, y1 ++ fs = y2 := ⟨_, rfl⟩
      have hy2l : y2.length = y1.length + fs.length := by rw [← hy2]; simp
      have a2 := fun W => str_add (P := Tryd.prog) (s := mkS xs) (t := ⟨#[46]⟩) (a := xs) (b := [46]) rfl rfl hy1 (by omega) W
      have a4 := fun W => str_add (P := Tryd.prog) (s := mkS y1) (t := mkS fs) (a := y1) (b := fs) rfl rfl hy2 (by omega) W
      have HT := Aside0.mk (show textT _ _ = y2 by rw [ht, ← hy2, ← hy1]; simp)
      have hRi : ((R : Int) == 0) = false := by simp; omega
      have hex : (mkS (49 :: ps)).extract 1 (ps.length + 1) = mkS ps := by rw [extract_mkS]; simp
      have HPS := Aside0.mk hk
      have HL := Aside0.mk hlast
      clear ht hz hW hR hy1 hy2 hn hR0 hk hlast
      go_enter Tryd.func16, Tryd.ntmps16
      go_wp2_with fail
      go_quiet (fail)
      have HB1 := Aside0.mk (below_drewN HB0.out nq)
      go_wp2_with (first
        | (go_at_call 19; have hh := HB2; refine (gripsackref1_Digits.calls 18 _ _ _ HRI.out).mono ?_; rintro e w2 ⟨rfl, hb2⟩; have HB3 := Aside0.mk (below_next HB2.out hb2))
        | (go_at_call 19; refine (gripsackref1_Digits.calls 18 _ _ _ HWI.out).mono ?_; rintro e w1 ⟨rfl, hb1⟩; have HB2 := Aside0.mk (below_next HB1.out hb1)))
      go_loopw [7] (fun v wr => ∃ i : Nat, i ≤ k ∧ v = .string (mkS (fs ++ List.replicate i 48)) ∧ Aside0 (Below w.heap.size w wr)) (fun v _ => (match v with | .string b => b.size | _ => 0))
      case atStart => exact ⟨k, Nat.le_refl _, by rw [HPS.out], HB3⟩
      case round =>
        obtain ⟨i, hi, rfl, HBR⟩ := hrel
        cases i with
        | zero =>
          rw [List.replicate_zero, List.append_nil]
          have hfi : (1 : Int) ≤ (fs.length : Int) := by omega
          have hfi2 : fs.length - 1 < fs.length := by omega
          have h48 : ((((mkS fs)[fs.length - 1]'(by simpa using hfi2)).toNat : Int) == 48) = false := by
            have h1 := HL.out
            rw [getElem_mkS]
            rw [List.getD_eq_getElem?_getD, List.getElem?_eq_getElem hfi2] at h1
            have h2 : ¬ fs[fs.length - 1].toNat = 48 := fun e => h1 (UInt8.toNat_inj.1 e)
            simp; omega
          go_wp2_with fail
          go_ret
          exact ⟨by rw [HT.out]; rfl, HBR.out⟩
        | succ i =>
          obtain ⟨gs, hgs⟩ : ∃ gs, fs ++ List.replicate (i + 1) 48 = gs := ⟨_, rfl⟩
          have hgl : gs.length = fs.length + i + 1 := by rw [← hgs]; simp; omega
          have hg2 : gs.length - 1 < gs.length := by omega
          have hcut : gs.take (gs.length - 1) = fs ++ List.replicate i 48 := by
            rw [← List.dropLast_eq_take, ← hgs, List.replicate_succ', ← List.append_assoc, List.dropLast_concat]
          have hgi : (1 : Int) ≤ (gs.length : Int) := by omega
          have h48 : ((((mkS gs)[gs.length - 1]'(by simpa using hg2)).toNat : Int) == 48) = true := by
            rw [getElem_mkS]
            have : gs[gs.length - 1]'hg2 = 48 := by
              have e : gs = (fs ++ List.replicate i 48) ++ [48] := by rw [← hgs, List.replicate_succ', List.append_assoc]
              simp only [e]
              simp
            rw [this]; rfl
          have hex2 : (mkS gs).extract 0 (gs.length - 1) = mkS (fs ++ List.replicate i 48) := by rw [extract_mkS, ← hcut]; simp
          have hgb : (gs.length : Int) ≤ 9 := by omega
          rw [hgs]
          have HGL := Aside0.mk hgl
          clear hgs hgl hcut
          go_wp2_with fail
          exact ⟨⟨i, by omega, by first | rfl | rw [hex2], HBR⟩, by have := HGL.out; simp; omega⟩
  · have e1 : signT s = [] := by unfold signT; rw [if_neg hs]
    rw [e1, List.nil_append] at ht
    have a1 := fun W => str_add (P := Tryd.prog) (s := ⟨#[]⟩) (t := mkS ds) (a := []) (b := ds) (c := ds) rfl rfl rfl (by omega) W
    clear e1
    obtain rfl : s = (W : Int) := by unfold wholeT at hW; rw [if_neg hs] at hW; omega
    by_cases hn : n = 0
    · subst hn
      obtain rfl : R = 0 := by omega
      rw [if_pos rfl, List.append_nil] at ht
      have HT := Aside0.mk ht
      clear ht hz hW hR
      have hs' : decide ((W : Int) < 0) = false := by simp
      go_enter Tryd.func16, Tryd.ntmps16
      go_wp2_with fail
      go_quiet (fail)
      have HB1 := Aside0.mk (below_drewN HB0.out nq)
      go_wp2_with (go_at_call 19; refine (gripsackref1_Digits.calls 18 _ _ _ HWI.out).mono ?_; rintro e w1 ⟨rfl, hb1⟩)
      go_ret
      exact ⟨by rw [HT.out]; rfl, below_next HB1.out hb1⟩
    · have hR0 : ¬ R = 0 := by omega
      rw [if_neg hR0] at ht
      obtain rfl : n = (R : Int) := by unfold partT at hR; rw [if_neg hs] at hR; omega
      obtain ⟨y1, hy1⟩ : ∃ y1, ds ++ [46] = y1 := ⟨_, rfl⟩
      have hy1l : y1.length = ds.length + 1 := by rw [← hy1]; simp
      obtain ⟨k, hk, hfl, hfk, hlast⟩ := HSPL.out hR0
      obtain ⟨y2, hy2⟩ : ∃ y2, y1 ++ fs = y2 := ⟨_, rfl⟩
      have hy2l : y2.length = y1.length + fs.length := by rw [← hy2]; simp
      have a2 := fun W => str_add (P := Tryd.prog) (s := mkS ds) (t := ⟨#[46]⟩) (a := ds) (b := [46]) rfl rfl hy1 (by omega) W
      have a4 := fun W => str_add (P := Tryd.prog) (s := mkS y1) (t := mkS fs) (a := y1) (b := fs) rfl rfl hy2 (by omega) W
      have HT := Aside0.mk (show textT _ _ = y2 by rw [ht, ← hy2, ← hy1]; simp)
      have hs' : decide ((W : Int) < 0) = false := by simp
      have hRi : ((R : Int) == 0) = false := by simp; omega
      have hex : (mkS (49 :: ps)).extract 1 (ps.length + 1) = mkS ps := by rw [extract_mkS]; simp
      have HPS := Aside0.mk hk
      have HL := Aside0.mk hlast
      clear ht hz hW hR hy1 hy2 hn hR0 hk hlast hs q1 q2 q3 q4
      go_enter Tryd.func16, Tryd.ntmps16
      go_wp2_with fail
      go_quiet (fail)
      have HB1 := Aside0.mk (below_drewN HB0.out nq)
      go_wp2_with (first
        | (go_at_call 19; have hh := HB2; refine (gripsackref1_Digits.calls 18 _ _ _ HRI.out).mono ?_; rintro e w2 ⟨rfl, hb2⟩; have HB3 := Aside0.mk (below_next HB2.out hb2))
        | (go_at_call 19; refine (gripsackref1_Digits.calls 18 _ _ _ HWI.out).mono ?_; rintro e w1 ⟨rfl, hb1⟩; have HB2 := Aside0.mk (below_next HB1.out hb1)))
      go_loopw [7] (fun v wr => ∃ i : Nat, i ≤ k ∧ v = .string (mkS (fs ++ List.replicate i 48)) ∧ Aside0 (Below w.heap.size w wr)) (fun v _ => (match v with | .string b => b.size | _ => 0))
      case atStart => exact ⟨k, Nat.le_refl _, by rw [HPS.out], HB3⟩
      case round =>
        obtain ⟨i, hi, rfl, HBR⟩ := hrel
        cases i with
        | zero =>
          rw [List.replicate_zero, List.append_nil]
          have hfi : (1 : Int) ≤ (fs.length : Int) := by omega
          have hfi2 : fs.length - 1 < fs.length := by omega
          have h48 : ((((mkS fs)[fs.length - 1]'(by simpa using hfi2)).toNat : Int) == 48) = false := by
            have h1 := HL.out
            rw [getElem_mkS]
            rw [List.getD_eq_getElem?_getD, List.getElem?_eq_getElem hfi2] at h1
            have h2 : ¬ fs[fs.length - 1].toNat = 48 := fun e => h1 (UInt8.toNat_inj.1 e)
            simp; omega
          go_wp2_with fail
          go_ret
          exact ⟨by rw [HT.out]; rfl, HBR.out⟩
        | succ i =>
          obtain ⟨gs, hgs⟩ : ∃ gs, fs ++ List.replicate (i + 1) 48 = gs := ⟨_, rfl⟩
          have hgl : gs.length = fs.length + i + 1 := by rw [← hgs]; simp; omega
          have hg2 : gs.length - 1 < gs.length := by omega
          have hcut : gs.take (gs.length - 1) = fs ++ List.replicate i 48 := by
            rw [← List.dropLast_eq_take, ← hgs, List.replicate_succ', ← List.append_assoc, List.dropLast_concat]
          have hgi : (1 : Int) ≤ (gs.length : Int) := by omega
          have h48 : ((((mkS gs)[gs.length - 1]'(by simpa using hg2)).toNat : Int) == 48) = true := by
            rw [getElem_mkS]
            have : gs[gs.length - 1]'hg2 = 48 := by
              have e : gs = (fs ++ List.replicate i 48) ++ [48] := by rw [← hgs, List.replicate_succ', List.append_assoc]
              simp only [e]
              simp
            rw [this]; rfl
          have hex2 : (mkS gs).extract 0 (gs.length - 1) = mkS (fs ++ List.replicate i 48) := by rw [extract_mkS, ← hcut]; simp
          have hgb : (gs.length : Int) ≤ 9 := by omega
          rw [hgs]
          have HGL := Aside0.mk hgl
          clear hgs hgl hcut
          go_wp2_with fail
          exact ⟨⟨i, by omega, by first | rfl | rw [hex2], HBR⟩, by have := HGL.out; simp; omega⟩
/-- TextStamp in the print's form. -/
def gripsackref1_TextStamp.f (a0_0 a0_1 : Int) : Option ByteArray := if mayT a0_0 a0_1 = true then some (mkS (textT a0_0 a0_1)) else none
theorem gripsackref1_TextStamp.calls (a0_0 a0_1 : Int) (r : ByteArray) (w : World) (h : gripsackref1_TextStamp.f a0_0 a0_1 = some r) :
    Calls Tryd.prog 16 #[.agg #[.int .i64 a0_0, .int .i64 a0_1]] w fun e w' => e = .returned (.string r) ∧ Below w.heap.size w w' := by
  unfold gripsackref1_TextStamp.f at h
  split at h
  · rename_i hm
    obtain rfl := Option.some.inj h
    exact textR_any a0_0 a0_1 w hm
  · cases h
end Go.Proofs.YtfdfpgkfhcmlcaaDoor
