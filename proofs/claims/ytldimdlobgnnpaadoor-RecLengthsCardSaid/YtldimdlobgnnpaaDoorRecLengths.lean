/- RecLengths: the walk. -/
import Derived.Test.YtldimdlobgnnpaaDoorRecLaw
import Derived.Test.YtldimdlobgnnpaaDoorRecRef
import Derived.Test.YtldimdlobgnnpaaDoorZeros
set_option linter.unusedVariables false
set_option linter.unusedSimpArgs false
namespace Go.Proofs.YtldimdlobgnnpaaDoor
open Go.RowKit Go.Proofs.YtldimdlobgnnpaaDoorW.PrintWords Go.Proofs.YtldimdlobgnnpaaDoor.PRecN

theorem getD_at' {l : List UInt8} {i : Nat} (h : i < l.length) : l.getD i 0 = l[i] := by rw [List.getD_eq_getElem?_getD, List.getElem?_eq_getElem h]; rfl
theorem getD_left {a b : List UInt8} {i : Nat} (h : i < a.length) : (a ++ b).getD i 0 = a.getD i 0 := by
  rw [List.getD_eq_getElem?_getD, List.getElem?_append_left h, List.getD_eq_getElem?_getD]
theorem getD_right {a b : List UInt8} {i : Nat} (h : a.length ≤ i) : (a ++ b).getD i 0 = b.getD (i - a.length) 0 := by
  rw [List.getD_eq_getElem?_getD, List.getElem?_append_right h, List.getD_eq_getElem?_getD]
theorem valOf_take (l : List UInt8) (j : Nat) : valOf 0 (l.take j) ≤ valOf 0 l := by
  have h := valOf_ge (l.drop j) (valOf 0 (l.take j))
  unfold valOf at h ⊢
  rw [← List.foldl_append, List.take_append_drop] at h
  exact h
theorem valOf_snoc (l : List UInt8) (j : Nat) (h : j < l.length) : valOf 0 (l.take (j + 1)) = valOf 0 (l.take j) * 10 + ((l.getD j 0).toNat - 48) := by
  rw [List.take_succ_eq_append_getElem h, getD_at' h]
  unfold valOf
  rw [List.foldl_append]
  rfl
theorem getElem_mkS (l : List UInt8) (i : Nat) (h : i < (mkS l).size) : (mkS l)[i]'h = l.getD i 0 := by
  rw [getD_at' (by simpa using h)]
  simp [mkS, ByteArray.getElem_eq_getElem_data]
/-- All that RecLengths reckons with. -/
structure LenFacts (n : Nat) (s ds rest other : List UInt8) (N : Nat) : Prop where
  put : putR [107] (List.replicate n 0) = s
  may : mayR [107] (List.replicate n 0) = true
  parts : s = ds ++ rest
  rest0 : ∃ t, rest = 32 :: t
  len : s.length = N
  digits : ∀ x ∈ ds, 48 ≤ x.toNat ∧ x.toNat ≤ 57
  val : valOf 0 ds = N
  restLen : rest.length = n + 4
  dsLen : ds.length ≤ 5 ∧ 1 ≤ ds.length
  otherIs : Lib.decDigits (N + 1) ++ rest = other
  otherNone : readL other = none
  zeroNone : readL (48 :: s) = none
theorem lenFacts (n : Nat) (hn : n < 11000) : ∃ s ds rest other N, LenFacts n s ds rest other N := by
  have hL := restL_len [107] (List.replicate n 0)
  rw [List.length_replicate, List.length_singleton] at hL
  have hsp := recNum_spec (restL [107] (List.replicate n 0)).length (by omega)
  have hpl := putL_len [107] (List.replicate n 0) (by omega)
  have hmay : mayR [107] (List.replicate n 0) = true := may_iffR.2 ⟨by simp, by simp, by simp, by simp, by omega⟩
  have hn5 : Lib.nDigits (recNum (restL [107] (List.replicate n 0)).length) ≤ 5 := by
    have := nDigits_mono (recNum (restL [107] (List.replicate n 0)).length) 65536 (by omega)
    have e : Lib.nDigits 65536 = 5 := Lib.nDigits_unique 4 65536 (by decide) (by decide)
    omega
  have hn1 := Lib.nDigits_pos (recNum (restL [107] (List.replicate n 0)).length)
  have hll : (restL [107] (List.replicate n 0)).length ≤ 1000000 := by omega
  exact ⟨putL [107] (List.replicate n 0), Lib.decDigits (recNum (restL [107] (List.replicate n 0)).length), restL [107] (List.replicate n 0), Lib.decDigits (recNum (restL [107] (List.replicate n 0)).length + 1) ++ restL [107] (List.replicate n 0), recNum (restL [107] (List.replicate n 0)).length,
    { put := by unfold putR; rw [if_pos hmay]
      may := hmay
      parts := by unfold putL; rfl
      rest0 := ⟨_, rest_cons _ _⟩
      len := hpl
      digits := num_digit _
      val := valOf_dec _
      restLen := by omega
      dsLen := by rw [Lib.decDigits_length]; omega
      otherIs := rfl
      otherNone := read_longer hll
      zeroNone := read_zero }⟩
set_option maxHeartbeats 4000000 in
set_option maxRecDepth 100000 in
theorem recLengths_walk (x : Int) (one : Bool) (w : World) (hG : Good w) (h0 : 0 ≤ x ∧ x ≤ 65535) : Calls Tryd.prog 3 #[.int .u16 x, .bool one] w fun e w' => e = .returned (.bool true) ∧ Below w.heap.size w w' := by
  obtain ⟨n, hn⟩ : ∃ n : Nat, (n : Int) = x % 11000 := ⟨(x % 11000).toNat, by omega⟩
  have hrem : x % 11000 = (n : Int) := hn.symm
  have hn2 : n < 11000 := by omega
  obtain ⟨s, ds, rest, other, N, HF⟩ := lenFacts n hn2
  obtain ⟨W0, hmk, hb0, hz0, hcv⟩ := zeros_world n (by omega) w
  obtain ⟨z, hz⟩ : ∃ z, List.replicate n (0 : UInt8) = z := ⟨_, rfl⟩
  have hzl : z.length = n := by rw [← hz]; simp
  have hput := HF.put
  have hmay := HF.may
  rw [hz] at hcv hput hmay
  have HG := Aside0.mk hG
  have HPUT := Aside0.mk (show ∀ w, Good w → Calls Tryd.prog 8 #[.agg #[.string ⟨#[107]⟩, .string (mkS z)]] w fun e w' => e = .returned (.string (mkS s)) ∧ Below w.heap.size w w' from fun w hG => putR_is [107] z s hput w hG (by simp; omega))
  have HMAY := Aside0.mk (show ∀ w, Good w → Calls Tryd.prog 12 #[.agg #[.string ⟨#[107]⟩, .string (mkS z)]] w fun e w' => e = .returned (.bool true) ∧ Below w.heap.size w w' from fun w hG => may_is [107] z true hmay w hG (by simp; omega))
  have HB1 := Aside0.mk (below_alloc hb0 (.cells #[.string ⟨#[107]⟩, .string (mkS z)] 25))
  have g1 := heap_alloc_new W0 (.cells #[.string ⟨#[107]⟩, .string (mkS z)] 25)
  rw [hz0] at g1
  have HSL := Aside0.mk (show s.length = ds.length + (n + 4) by rw [HF.parts, List.length_append, HF.restLen])
  have hdl := HF.dsLen
  have hs5 : (5 : Int) ≤ (s.length : Int) := by have := HSL.out; omega
  have hs6 : (s.length : Int) ≤ 11010 := by have := HSL.out; omega
  have hds : (ds.length : Int) < (s.length : Int) := by have := HSL.out; omega
  have HF := Aside0.mk HF
  clear hG hn hput hmay hz
  go_enter Tryd.func3, Tryd.ntmps3
  go_upto_region 3 with (fail)
  generalize W0.alloc (.cells #[.string ⟨#[107]⟩, .string (mkS z)] 25) = W1 at HB1 g1 ⊢
  have c0 : W1.cell? ⟨w.heap.size + 1, 0, none⟩ = some (.string ⟨#[107]⟩) := blk_cell g1 0
  have c1 : W1.cell? ⟨w.heap.size + 1, 1, none⟩ = some (.string (mkS z)) := blk_cell g1 1
  clear hmk hcv hz0
  go_upto_region 7 with (go_at_call 8; refine (HPUT.out _ (HG.out.below HB1.out)).mono ?_; rintro e w2 ⟨rfl, hb2⟩)
  have HB2 := Aside0.mk (below_next HB1.out hb2)
  have g2 := (hb2.block _ (blk_lt g1)).trans g1
  clear c0 c1 hb2 g1
  go_loop [8] (fun v => ∃ j : Nat, j ≤ ds.length ∧ v = .int .i64 j) (fun v => ds.length - (intOf v).toNat)
  case atStart => exact ⟨0, Nat.zero_le _, rfl⟩
  case round =>
    obtain ⟨j, hj, rfl⟩ := hrel
    have hjs : (j : Int) < (s.length : Int) := by omega
    have hjs2 : j < s.length := by omega
    by_cases hlt : j < ds.length
    · have hb : (mkS s)[j]'(by simpa using hjs2) = ds.getD j 0 := by
        rw [getElem_mkS, HF.out.parts, getD_left hlt]
      have hne : ((((ds.getD j 0).toNat : Nat) : Int) != 32) = true := by
        have := HF.out.digits (ds.getD j 0) (by rw [getD_at' hlt]; exact List.getElem_mem _)
        rw [bne_iff_ne]; omega
      generalize ds.getD j 0 = c at hb hne
      go_wp2_with fail
      go_round
      case rel => exact ⟨j + 1, by omega, by go_num⟩
      case measure => simp [intOf]; omega
    · obtain rfl : j = ds.length := by omega
      have hb : (mkS s)[ds.length]'(by simpa using hjs2) = 32 := by
        obtain ⟨t, ht⟩ := HF.out.rest0
        rw [getElem_mkS, HF.out.parts, ht, getD_right (Nat.le_refl _)]
        simp
      have hne : (((((32 : UInt8)).toNat : Nat) : Int) != 32) = false := by decide
      go_wp2_with fail
      clear hb hne
      have hN : N ≤ 11010 := by have := HF.out.len; omega
      go_loop [9, 10] (fun m v => ∃ j : Nat, j ≤ ds.length ∧ v = .int .i64 j ∧ m = .int .i64 ((valOf 0 (ds.take j) : Nat) : Int)) (fun _ v => ds.length - (intOf v).toNat)
      case atStart => exact ⟨0, Nat.zero_le _, rfl, rfl⟩
      case round =>
        obtain ⟨j, hj, rfl, rfl⟩ := hrel
        by_cases hlt : j < ds.length
        · have hjs2 : j < s.length := by omega
          have hjs : (j : Int) < (s.length : Int) := by omega
          have hb : (mkS s)[j]'(by simpa using hjs2) = ds.getD j 0 := by
            rw [getElem_mkS, HF.out.parts, getD_left hlt]
          have hd := HF.out.digits (ds.getD j 0) (by rw [getD_at' hlt]; exact List.getElem_mem _)
          have hv := valOf_snoc ds j hlt
          have hvt := valOf_take ds j
          rw [HF.out.val] at hvt
          generalize ds.getD j 0 = c at hb hd hv
          generalize valOf 0 (ds.take j) = m at hv hvt
          have HV := Aside0.mk hv
          have h48 : (48 : Int) ≤ (c.toNat : Int) := by omega
          have h57 : (c.toNat : Int) ≤ 57 := by omega
          have hm : (m : Int) ≤ 11010 := by omega
          clear hv hd
          go_wp2_with fail
          go_round
          case rel => exact ⟨j + 1, by omega, by go_num, by rw [HV.out]; go_num⟩
          case measure => simp [intOf]; omega
        · obtain rfl : j = ds.length := by omega
          rw [List.take_length, HF.out.val]
          have hsf := slice_from s (ds.length : Int) (by omega) (by omega)
          rw [Int.toNat_natCast, show s.drop ds.length = rest by rw [HF.out.parts, List.drop_left]] at hsf
          have hrl : (rest.length : Int) ≤ 11010 := by have := HF.out.restLen; omega
          have hN1 : (rest.length : Int) + (ds.length : Int) + 1 = ((N + 1 : Nat) : Int) := by have := HF.out.restLen; have := HF.out.len; have := HSL.out; omega
          obtain ⟨dn, hdn⟩ : ∃ dn, Lib.decDigits (N + 1) = dn := ⟨_, rfl⟩
          have hdnl : dn.length ≤ 20 := by rw [← hdn, Lib.decDigits_length]; exact Lib.nDigits_le20 _ (by omega)
          have HDG := Aside0.mk (show gripsackref1_Digits.f 18 ((rest.length : Int) + (ds.length : Int) + 1) = some (mkS dn) by
            rw [hN1, digits_f _ 18 (by omega) (by omega) (by omega), num_itoa (by omega), Int.toNat_natCast, hdn])
          have ho := HF.out.otherIs
          rw [hdn] at ho
          have hol : other.length ≤ 11040 := by rw [← ho, List.length_append]; omega
          have hol0 : 0 < other.length := by rw [← ho, List.length_append, HF.out.restLen]; omega
          have a1 := fun W => str_add (P := Tryd.prog) (s := mkS dn) (t := mkS rest) (a := dn) (b := rest) rfl rfl ho (by omega) W
          obtain ⟨zs, hzs⟩ : ∃ zs, [48] ++ s = zs := ⟨_, rfl⟩
          have hzl : zs.length = s.length + 1 := by rw [← hzs]; simp
          have a2 := fun W => str_add (P := Tryd.prog) (s := ⟨#[48]⟩) (t := mkS s) (a := [48]) (b := s) rfl rfl hzs (by omega) W
          have HO := Aside0.mk (show ∀ w, Good w → Calls Tryd.prog 10 #[.string (mkS other), .int .i64 0] w fun e w' => e = .returned (gotV [] [] 0 4) ∧ Below w.heap.size w w' from fun w hG => get_bad other 0 w hG hol0 (by omega) HF.out.otherNone)
          have HZ := Aside0.mk (show ∀ w, Good w → Calls Tryd.prog 10 #[.string (mkS zs), .int .i64 0] w fun e w' => e = .returned (gotV [] [] 0 4) ∧ Below w.heap.size w w' from fun w hG => get_bad zs 0 w hG (by omega) (by omega) (by rw [← hzs]; exact HF.out.zeroNone))
          have hsum : ((ds.length : Int) + (rest.length : Int)) = (s.length : Int) := by have := HF.out.restLen; have := HSL.out; omega
          have HSUM := Aside0.mk hsum
          have HNS := Aside0.mk HF.out.len
          clear ho hzs hzl hdn hN1 hsum
          go_wp2_with fail
          refine (gripsackref1_Digits.calls 18 _ _ _ HDG.out).mono ?_
          rintro e w3 ⟨rfl, hb3⟩
          have HB3 := Aside0.mk (below_next HB2.out hb3)
          have g3 := (hb3.block _ (blk_lt g2)).trans g2
          clear hb3 g2
          go_wp2_with fail
          refine (HO.out _ (HG.out.below HB3.out)).mono ?_
          rintro e w4 ⟨rfl, hb4⟩
          simp only [gotV]
          have HB4 := Aside0.mk (below_alloc (below_next HB3.out hb4) (.cells #[.string (mkS []), .string (mkS [])] 25))
          have g4 := blk_alloc ((hb4.block _ (blk_lt g3)).trans g3) (.cells #[.string (mkS []), .string (mkS [])] 25)
          clear hb4 g3
          go_wp2_with fail
          generalize w4.alloc (.cells #[.string (mkS []), .string (mkS [])] 25) = W4 at HB4 g4 ⊢
          refine (HZ.out _ (HG.out.below HB4.out)).mono ?_
          rintro e w5 ⟨rfl, hb5⟩
          simp only [gotV]
          have HB5 := Aside0.mk (below_alloc (below_next HB4.out hb5) (.cells #[.string (mkS []), .string (mkS [])] 25))
          have g5 := blk_alloc ((hb5.block _ (blk_lt g4)).trans g4) (.cells #[.string (mkS []), .string (mkS [])] 25)
          clear hb5 g4
          have d0 := blk_cell g5 0
          have d1 := blk_cell g5 1
          have e1 : ((N : Int) == (s.length : Int)) = true := by rw [HNS.out]; simp
          have e2 : ((s.length : Int) == (ds.length : Int) + (rest.length : Int)) = true := by rw [HSUM.out]; simp
          cases one
          all_goals
            go_wp2_with (first
              | (go_at_call 11; refine (err_any _ _).mono ?_; rintro e wp ⟨rfl, rfl⟩)
              | (go_at_call 12; refine (HMAY.out _ (HG.out.below HB5.out)).mono ?_; rintro e w6 ⟨rfl, hb6⟩; have HB6 := Aside0.mk (below_next HB5.out hb6))
              | (go_at_call 13; have hh := HB6; refine (awake_any _ (HG.out.below HB6.out)).mono ?_; rintro e w7 ⟨rfl, hb7⟩; have HF7 := Aside0.mk (below_next HB6.out hb7))
              | (go_at_call 13; refine (awake_any _ (HG.out.below HB5.out)).mono ?_; rintro e w7 ⟨rfl, hb7⟩; have HF7 := Aside0.mk (below_next HB5.out hb7)))
          all_goals
            go_ret
            exact ⟨rfl, HF7.out⟩
end Go.Proofs.YtldimdlobgnnpaaDoor
