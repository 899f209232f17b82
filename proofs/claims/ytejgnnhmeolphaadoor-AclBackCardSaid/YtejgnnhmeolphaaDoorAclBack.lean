/- AclBack: the walk. -/
import Derived.Test.YtejgnnhmeolphaaDoorAclMayLaw
import Derived.Test.YtejgnnhmeolphaaDoorAclSame
import Derived.Test.YtejgnnhmeolphaaDoorAclModes
set_option linter.unusedVariables false
set_option linter.unusedSimpArgs false
namespace Go.Proofs.YtejgnnhmeolphaaDoor
open Go.RowKit Go.Proofs.YtejgnnhmeolphaaDoorW.PrintWords Go.Proofs.YtejgnnhmeolphaaDoor.PAclR
theorem text_len {l : List Ace} (h : mayL l = true) : 0 < (textL l).length ∧ (textL l).length ≤ 28000 := by
  obtain ⟨hpos, hlen, hgood⟩ := may_parts h
  constructor
  · cases l with
    | nil => simp at hpos
    | cons a r =>
      have h1 : 0 < (aceText a).length := by have := headOf_len a.f0; unfold aceText; simp; omega
      unfold textL
      cases r with
      | nil => rw [List.map_cons, List.map_nil, Lib.join_one]; exact h1
      | cons b r => rw [List.map_cons, List.map_cons, join_cons]; simp; omega
  · have := join_le (l.map aceText) 27 (fun x hx => by
      obtain ⟨a, ha, rfl⟩ := List.mem_map.1 hx
      have h1 := aceText_le a
      have h2 := hgood a ha
      have h3 := Lib.itoa_length_le a.f1 (by omega) (by omega)
      omega)
    rw [List.length_map] at this
    unfold textL
    omega
/-- Parse of a text that is another one, or the same. -/
theorem back_parse (T T' : List UInt8) (L : List Ace) (hT : parseL T = some L) (w : World) (hG : Good w) (ht : T'.length < 1000000) :
    Calls Tryd.prog 9 #[.string (mkS T')] w fun e w' => ∃ Ay Yl cy ok, e = .returned (.tuple #[.slice Ay Yl.length cy, .bool ok]) ∧ Yl.length ≤ cy ∧ Yl.length ≤ 1000 ∧ Kd.C k27 w' Ay Yl.length Yl ∧ Below w.heap.size w w' ∧ (T' = T ∨ (T' ≠ T ∧ ok = false) ∨ (T' ≠ T ∧ ok = true ∧ sameL Yl L = false)) := by
  refine (parse_any T' w hG ht).mono fun e w' h => ?_
  unfold ParseDone at h
  by_cases hq : T' = T
  · rw [hq, hT] at h
    obtain ⟨⟨v, rfl, hR⟩, hb⟩ := h
    obtain ⟨A, c, rfl, hc, hC⟩ := Kd.R_reads hR
    exact ⟨A, L, c, true, rfl, hc, (may_parts (parse_text hT).1).2.1, hC, hb, .inl hq⟩
  · cases hp : parseL T' with
    | none =>
      rw [hp] at h
      exact ⟨none, [], 0, false, h.1, Nat.le_refl _, by simp, ⟨rfl, by decide, fun h => absurd h (by decide)⟩, h.2, .inr (.inl ⟨hq, rfl⟩)⟩
    | some Y =>
      rw [hp] at h
      obtain ⟨⟨v, rfl, hR⟩, hb⟩ := h
      obtain ⟨A, c, rfl, hc, hC⟩ := Kd.R_reads hR
      refine ⟨A, Y, c, true, rfl, hc, (may_parts (parse_text hp).1).2.1, hC, hb, .inr (.inr ⟨hq, rfl, ?_⟩)⟩
      cases hs : sameL Y L with
      | false => rfl
      | true =>
        obtain rfl := (sameL_iff Y L).1 hs
        exact absurd ((parse_text hp).2.symm.trans (parse_text hT).2) hq
theorem sameL_refl (l : List Ace) : sameL l l = true := (sameL_iff l l).2 rfl
set_option maxHeartbeats 2000000 in
set_option maxRecDepth 100000 in
theorem back_walk (A : Option Addr) (c : Nat) (ns : List Int) (m at_ by_ k : Int) (w : World) (hG : Good w) (hN : ReadsInt w .u8 A ns.length ns) (hb : ∀ x ∈ ns, 0 ≤ x ∧ x ≤ 255) (hc : ns.length ≤ c) (h0 : 0 ≤ m ∧ m ≤ 65535) (h1 : 0 ≤ at_ ∧ at_ ≤ 255) (h2 : 0 ≤ by_ ∧ by_ ≤ 255) (h3 : 0 ≤ k ∧ k ≤ 255) :
    Calls Tryd.prog 7 #[.slice A ns.length c, .int .u16 m, .int .u8 at_, .int .u8 by_, .int .u8 k] w fun e w' => e = .returned (.bool true) ∧ Below w.heap.size w w' := by
  have HG := Aside0.mk hG
  clear hG
  have hmk := make_any A c ns (m % 512) w hN hb hc (by omega)
  have hmay := make_may ns (m % 512) hb (by omega)
  obtain ⟨g1, g3, g4, g5, g6⟩ := make_mode ns (m % 512) hb (by omega)
  go_enter Tryd.func7, Tryd.ntmps7
  go_wp2_with fail
  refine hmk.mono ?_
  rintro e w1 ⟨v, rfl, hR, hb1⟩
  obtain ⟨L, hL⟩ : ∃ L, L = makeL ns (m % 512) := ⟨_, rfl⟩
  rw [← hL] at hR hmay g1 g3 g4 g5 g6
  obtain ⟨hpos, hlen, hgood⟩ := may_parts hmay
  obtain ⟨Al, cl, rfl, hcl, hC⟩ := Kd.R_reads hR
  have HC := Aside0.mk hC
  have HB1 := Aside0.mk hb1
  have HMAY := Aside0.mk hmay
  have ht := aclText_any Al cl L w1 (HG.out.below hb1) hC hcl hlen hpos hgood
  obtain ⟨T, hT⟩ : ∃ T, T = textL L := ⟨_, rfl⟩
  rw [show Lib.join (L.map aceText) [44] = T from hT.symm] at ht
  obtain ⟨t0, t1⟩ := text_len hmay
  have hpb := parse_back hmay
  rw [← hT] at t0 t1 hpb
  have HT := Aside0.mk hT
  have HPB := Aside0.mk hpb
  clear hR hC hmk hN hb hL hpb
  go_wp2_with fail
  refine ht.mono ?_
  rintro e w2 ⟨rfl, hb2⟩
  have HB2 := Aside0.mk (below_next hb1 hb2)
  have HC2 := Aside0.mk (Kd.C_below HC.out hb2)
  clear ht hT
  go_wp2_with fail
  refine (parse_any T w2 (HG.out.below HB2.out) (by omega)).mono ?_
  intro e w3 hpd
  unfold ParseDone at hpd
  rw [HPB.out] at hpd
  obtain ⟨⟨v, rfl, hR⟩, hb3⟩ := hpd
  obtain ⟨Ax, cx, rfl, hcx, hCx⟩ := Kd.R_reads hR
  have HB3 := Aside0.mk (below_next HB2.out hb3)
  have HC3 := Aside0.mk (Kd.C_below HC2.out hb3)
  have HCX := Aside0.mk hCx
  have hne : T.isEmpty = false := by cases T with
    | nil => simp at t0
    | cons _ _ => rfl
  have hm := fun (W : World) (hw : Below w3.heap.size w3 W) => aclMay_any Al cl L W (Kd.C_below HC3.out hw) hcl (by omega)
  have ho := fun (W : World) (hw : Below w3.heap.size w3 W) => mode_any Al cl L W (Kd.C_below HC3.out hw) hcl (by omega) g3 g4 g5 g6
  have hs := fun (W : World) (hw : Below w3.heap.size w3 W) => same_any Ax Al cx cl L L W (Kd.C_below HCX.out hw) (Kd.C_below HC3.out hw) hcx hcl (by omega) (by omega)
  simp only [hmay] at hm
  simp only [g1] at ho
  simp only [sameL_refl] at hs
  have HM := Aside0.mk hm
  have HO := Aside0.mk ho
  have HS := Aside0.mk hs
  clear hm ho hs hR hCx hb1 hb2 hb3 hmay g1 g3 g4 g5 g6
  go_wp2_with (first
    | (go_at_call 10; refine (HM.out _ (Below.refl _ _)).mono ?_; rintro e w4 ⟨rfl, hb4⟩)
    | (go_at_call 12; refine (HO.out _ hb4).mono ?_; rintro e w5 ⟨rfl, hb5⟩)
    | (go_at_call 18; refine (HS.out _ (below_next hb4 hb5)).mono ?_; rintro e w6 ⟨rfl, hb6⟩))
  have HB6 := Aside0.mk (below_next HB3.out (below_next (below_next hb4 hb5) hb6))
  have HC6 := Aside0.mk (Kd.C_below HC3.out (below_next (below_next hb4 hb5) hb6))
  clear hb4 hb5 hb6 hne
  obtain ⟨w7, cap, hcv, hb7, hz7, hB7⟩ := conv_world (P := Tryd.prog) w6 9 22 5 (mkS T) Tryd.underlying9 Tryd.underlying22 Tryd.underlying5
  rw [data_mkS] at hB7
  rw [size_mkS] at hcv
  have hmz : 0 ≤ at_ % (T.length : Int) := Int.emod_nonneg _ (by omega)
  have hml : at_ % (T.length : Int) < (T.length : Int) := Int.emod_lt_of_pos _ (by omega)
  have hi : (at_ % (T.length : Int)).toNat < T.length := by omega
  have hci := hB7.cell _ hi
  have hfi := hB7.free _ hi
  obtain ⟨b8, hb8⟩ : ∃ b8 : UInt8, (b8.toNat : Int) = by_ := ⟨UInt8.ofNat by_.toNat, by simp; omega⟩
  have hB8 := hB7.set _ hi b8
  rw [hb8] at hB8
  have hbk := hB8.back (P := Tryd.prog) 22 9 5 cap T.length (by simp) Tryd.underlying22 Tryd.underlying5 Tryd.underlying9
  have hb9 : Below w6.heap.size w6 (w7.setCell ⟨w6.heap.size, (at_ % (T.length : Int)).toNat, none⟩ (.int .u8 by_)) := hb7.setCell (Nat.le_refl _) _
  have HB9 := Aside0.mk (below_next HB6.out hb9)
  have HC9 := Aside0.mk (Kd.C_below HC6.out hb9)
  have HB8 := Aside0.mk hB8
  have ht2 : (T.set (at_ % (T.length : Int)).toNat b8).length < 1000000 := by rw [List.length_set]; omega
  obtain ⟨T', hT'⟩ : ∃ T', T' = T.set (at_ % (T.length : Int)).toNat b8 := ⟨_, rfl⟩
  rw [← hT'] at hbk HB8 ht2
  have HT' := Aside0.mk hT'
  have HBK := Aside0.mk hbk
  clear hB7 hB8 hb7 hb9 hT' hbk
  rw [hcv]
  go_simp
  go_wp2_with fail
  rw [HBK.out]
  clear hci hfi hcv
  go_simp
  go_wp2_with fail
  refine (back_parse T T' L HPB.out _ (HG.out.below HB9.out) ht2).mono ?_
  rintro e w10 ⟨Ay, Yl, cy, ok, rfl, hcy, hly, hCy, hb10, hway⟩
  have HB10 := Aside0.mk (below_next HB9.out hb10)
  have HC10 := Aside0.mk (Kd.C_below HC9.out hb10)
  have HCY := Aside0.mk hCy
  have HB8b := Aside0.mk (HB8.out.below hb10 HB8.out.lt)
  clear hb10 hCy
  have hkz : 0 ≤ k % (L.length : Int) := Int.emod_nonneg _ (by omega)
  have hkl : k % (L.length : Int) < (L.length : Int) := Int.emod_lt_of_pos _ (by omega)
  obtain ⟨q, hq⟩ : ∃ q : Nat, k % (L.length : Int) = q := ⟨(k % (L.length : Int)).toNat, by omega⟩
  have hqL : q < L.length := by omega
  go_wp2_with fail
  rw [hq]
  clear hkz hkl hmz hml
  obtain ⟨m2, hct, hm2c, hm2, hX2⟩ := ace_to Al cl L q w10 HC10.out hcl (by omega)
  obtain ⟨Ar, mr, cr, hcf, hmr, hmr2, hXr⟩ := ace_from Al cl L (q + 1) w10 HC10.out hcl (by omega)
  rw [show (((q + 1 : Nat)) : Int) = (q : Int) + 1 from by omega] at hcf
  have hw1 : IntKind.i64.wrap ((q : Int) + 1) = (q : Int) + 1 := by rw [IntKind.wrap_i64]; omega
  have HX2 := Aside0.mk hX2
  have HXR := Aside0.mk hXr
  have HM2 := Aside0.mk (And.intro hm2 hmr2)
  clear hX2 hXr hm2 hmr2
  have HR0 := Aside0.mk (Below.refl w10.heap.size w10)
  go_region_held3 (fun w' => Aside0 (Below w10.heap.size w10 w'))
    (first
      | exact ⟨below_drew HR0.out⟩
      | (go_split_ands; exact ⟨below_alloc (Aside0.out (by assumption)) _⟩)
      | exact ⟨hbq⟩)
    ((go_split_ands
      have hbw := Aside0.out (by assumption : Aside0 (Below w10.heap.size w10 _))
      first
      | (refine ace_append_step (o := ⟨some 83, _, _, _, _, _⟩) (by rfl) (.tmp 79) (.tmp 82) (by rfl) (w0 := w10) w10.heap.size _ [] (L.take q) _ _ _ (by rfl) (by rfl) (ace_lit_at (by first | exact heap_alloc_new _ _ | exact blk_drew (heap_alloc_new _ _)) (by simp)) (Kd.C_below HX2.out hbw) hbw hbw.size (by have := HM2.out; simp; omega) ?_
         intro v83 w83 hR83 hbq hg83
         rw [List.nil_append] at hR83)
      | (refine ace_append_step (o := ⟨some 88, _, _, _, _, _⟩) (by rfl) (.tmp 83) (.tmp 87) (by rfl) (w0 := w10) w10.heap.size v83 (L.take q) (L.drop (q + 1)) _ _ _ (by rfl) (by rfl) hR83 (Kd.C_below HXR.out hbw) hbw hbw.size (by have := HM2.out; simp; omega) ?_
         intro v88 w88 hR88 hbq hg88)))
  have HB88 := Aside0.mk (below_next HB10.out hbq)
  have HC88 := Aside0.mk (Kd.C_below HC10.out hbq)
  have HCY88 := Aside0.mk (Kd.C_below HCY.out hbq)
  have HBY := Aside0.mk (HB8b.out.below hbq HB8b.out.lt)
  obtain ⟨A2, c2, rfl, hc2, hC2⟩ := Kd.R_reads hR88
  have HC2L := Aside0.mk hC2
  obtain ⟨n2, hn2⟩ : ∃ n2, n2 = (L.take q ++ L.drop (q + 1)).length := ⟨_, rfl⟩
  have hn2l : n2 ≤ 1000 := by rw [hn2]; simp; omega
  rw [← hn2] at hc2 ⊢
  have HN2 := Aside0.mk hn2
  clear hR83 hbq hg83 hg88 hR88 hC2 hct hcf hw1 hn2
  obtain ⟨ad, rfl, p0, p1, p2⟩ := at_T27 HC88.out (q : Int) (by omega) (by omega)
  obtain ⟨⟨t, id, pm⟩, ha⟩ : ∃ a, rd_T27 L (q : Int) = a := ⟨_, rfl⟩
  rw [ha, Int.toNat_natCast] at p0 p1 p2
  simp only at p0 p1 p2
  have hLq : L.drop q = ⟨t, id, pm⟩ :: L.drop (q + 1) := drop_at ⟨ha⟩ hqL
  have HLQ := Aside0.mk hLq
  clear ha hLq
  have hqL' : (q : Int) < (L.length : Int) := by omega
  have hless : t ≠ 2 → t ≠ 4 → mayL (L.take q ++ L.drop (q + 1)) = false := fun e2 e4 => may_less (a := ⟨t, id, pm⟩) (by rw [← HLQ.out, List.take_append_drop]; exact HMAY.out) e2 e4
  have HLS := Aside0.mk hless
  clear hless
  have hbk2 := HBY.out.back (P := Tryd.prog) 22 9 5 cap T.length (by rw [HT'.out, List.length_set]) Tryd.underlying22 Tryd.underlying5 Tryd.underlying9
  have HBK2 := Aside0.mk hbk2
  have hx2 : Go.bits .and .i64 (m % 512) 511 = m % 512 := by rw [and511 _ (by omega) (by omega)]; omega
  have hfr := from_f (m % 512) (m % 512) hx2 hx2
  have HFR := Aside0.mk hfr
  obtain ⟨f1, f2, f3, f4, f5, f6⟩ := modes_int (m % 512) (by omega) (by omega)
  have HF := Aside0.mk (And.intro f1 (And.intro f3 (And.intro f4 (And.intro f5 f6))))
  have hbc := Below.refl w88.heap.size w88
  clear hbk2 hfr f1 f2 f3 f4 f5 f6 hx2
  rcases hway with hq | ⟨hq, rfl⟩ | ⟨hq, rfl, hsm⟩
  · subst hq
    by_cases h2 : t = 2
    · subst h2
      go_wp2_with fail
      rw [HBK2.out]
      go_simp
      go_wp2_with (first
          | (go_at_call 18; refine (same_any Ay (some ad) cy cl Yl L _ (Kd.C_below HCY88.out hbc) (Kd.C_below HC88.out hbc) hcy hcl (by omega) (by omega)).mono ?_; rw [hsm]; rintro e wS ⟨rfl, hbS⟩; have hbc := below_next hbc hbS)
          | (go_at_call 10; refine (may_no A2 n2 c2 _ _ HN2.out (by rw [HN2.out]; exact Kd.C_below HC2L.out hbc) hc2 hn2l (HLS.out h2 h4)).mono ?_; rintro e wM ⟨rfl, hbM⟩; have hbc := below_next hbc hbM)
          | (go_at_call 14; refine (acl_From.calls _ _ _ HFR.out).mono ?_; rintro e wF ⟨vF, rfl, hRF, hbF⟩; obtain ⟨AF, cF, rfl, hcF, hCF⟩ := Kd.R_reads hRF; have hbc := below_next hbc hbF)
          | (go_at_call 12; refine (mode_any AF cF (fromL (m % 512)) _ hCF hcF (by rw [show (fromL (m % 512)).length = 3 from rfl]; decide) HF.out.2.1 HF.out.2.2.1 HF.out.2.2.2.1 HF.out.2.2.2.2).mono ?_; rw [HF.out.1]; rintro e wO ⟨rfl, hbO⟩; have hbc := below_next hbc hbO)
          | (go_at_call 11; refine (awake_any _ (HG.out.below (below_next HB88.out hbc))).mono ?_; rintro e wA ⟨rfl, hbA⟩; have hbc := below_next hbc hbA))
      all_goals
        go_ret
        exact ⟨rfl, below_next HB88.out hbc⟩
    · by_cases h4 : t = 4
      · subst h4
        go_wp2_with fail
        rw [HBK2.out]
        go_simp
        go_wp2_with (first
            | (go_at_call 18; refine (same_any Ay (some ad) cy cl Yl L _ (Kd.C_below HCY88.out hbc) (Kd.C_below HC88.out hbc) hcy hcl (by omega) (by omega)).mono ?_; rw [hsm]; rintro e wS ⟨rfl, hbS⟩; have hbc := below_next hbc hbS)
            | (go_at_call 10; refine (may_no A2 n2 c2 _ _ HN2.out (by rw [HN2.out]; exact Kd.C_below HC2L.out hbc) hc2 hn2l (HLS.out h2 h4)).mono ?_; rintro e wM ⟨rfl, hbM⟩; have hbc := below_next hbc hbM)
            | (go_at_call 14; refine (acl_From.calls _ _ _ HFR.out).mono ?_; rintro e wF ⟨vF, rfl, hRF, hbF⟩; obtain ⟨AF, cF, rfl, hcF, hCF⟩ := Kd.R_reads hRF; have hbc := below_next hbc hbF)
            | (go_at_call 12; refine (mode_any AF cF (fromL (m % 512)) _ hCF hcF (by rw [show (fromL (m % 512)).length = 3 from rfl]; decide) HF.out.2.1 HF.out.2.2.1 HF.out.2.2.2.1 HF.out.2.2.2.2).mono ?_; rw [HF.out.1]; rintro e wO ⟨rfl, hbO⟩; have hbc := below_next hbc hbO)
            | (go_at_call 11; refine (awake_any _ (HG.out.below (below_next HB88.out hbc))).mono ?_; rintro e wA ⟨rfl, hbA⟩; have hbc := below_next hbc hbA))
        all_goals
          go_ret
          exact ⟨rfl, below_next HB88.out hbc⟩
      · go_wp2_with fail
        rw [HBK2.out]
        go_simp
        go_wp2_with (first
            | (go_at_call 18; refine (same_any Ay (some ad) cy cl Yl L _ (Kd.C_below HCY88.out hbc) (Kd.C_below HC88.out hbc) hcy hcl (by omega) (by omega)).mono ?_; rw [hsm]; rintro e wS ⟨rfl, hbS⟩; have hbc := below_next hbc hbS)
            | (go_at_call 10; refine (may_no A2 n2 c2 _ _ HN2.out (by rw [HN2.out]; exact Kd.C_below HC2L.out hbc) hc2 hn2l (HLS.out h2 h4)).mono ?_; rintro e wM ⟨rfl, hbM⟩; have hbc := below_next hbc hbM)
            | (go_at_call 14; refine (acl_From.calls _ _ _ HFR.out).mono ?_; rintro e wF ⟨vF, rfl, hRF, hbF⟩; obtain ⟨AF, cF, rfl, hcF, hCF⟩ := Kd.R_reads hRF; have hbc := below_next hbc hbF)
            | (go_at_call 12; refine (mode_any AF cF (fromL (m % 512)) _ hCF hcF (by rw [show (fromL (m % 512)).length = 3 from rfl]; decide) HF.out.2.1 HF.out.2.2.1 HF.out.2.2.2.1 HF.out.2.2.2.2).mono ?_; rw [HF.out.1]; rintro e wO ⟨rfl, hbO⟩; have hbc := below_next hbc hbO)
            | (go_at_call 11; refine (awake_any _ (HG.out.below (below_next HB88.out hbc))).mono ?_; rintro e wA ⟨rfl, hbA⟩; have hbc := below_next hbc hbA))
        all_goals
          go_ret
          exact ⟨rfl, below_next HB88.out hbc⟩
  · have hq2 : ¬ mkS T' = mkS T := fun h => hq (mkS_inj.1 h)
    by_cases h2 : t = 2
    · subst h2
      go_wp2_with fail
      rw [HBK2.out]
      go_simp
      go_wp2_with (first
          | (go_at_call 18; refine (same_any Ay (some ad) cy cl Yl L _ (Kd.C_below HCY88.out hbc) (Kd.C_below HC88.out hbc) hcy hcl (by omega) (by omega)).mono ?_; rw [hsm]; rintro e wS ⟨rfl, hbS⟩; have hbc := below_next hbc hbS)
          | (go_at_call 10; refine (may_no A2 n2 c2 _ _ HN2.out (by rw [HN2.out]; exact Kd.C_below HC2L.out hbc) hc2 hn2l (HLS.out h2 h4)).mono ?_; rintro e wM ⟨rfl, hbM⟩; have hbc := below_next hbc hbM)
          | (go_at_call 14; refine (acl_From.calls _ _ _ HFR.out).mono ?_; rintro e wF ⟨vF, rfl, hRF, hbF⟩; obtain ⟨AF, cF, rfl, hcF, hCF⟩ := Kd.R_reads hRF; have hbc := below_next hbc hbF)
          | (go_at_call 12; refine (mode_any AF cF (fromL (m % 512)) _ hCF hcF (by rw [show (fromL (m % 512)).length = 3 from rfl]; decide) HF.out.2.1 HF.out.2.2.1 HF.out.2.2.2.1 HF.out.2.2.2.2).mono ?_; rw [HF.out.1]; rintro e wO ⟨rfl, hbO⟩; have hbc := below_next hbc hbO)
          | (go_at_call 11; refine (awake_any _ (HG.out.below (below_next HB88.out hbc))).mono ?_; rintro e wA ⟨rfl, hbA⟩; have hbc := below_next hbc hbA))
      all_goals
        go_ret
        exact ⟨rfl, below_next HB88.out hbc⟩
    · by_cases h4 : t = 4
      · subst h4
        go_wp2_with fail
        rw [HBK2.out]
        go_simp
        go_wp2_with (first
            | (go_at_call 18; refine (same_any Ay (some ad) cy cl Yl L _ (Kd.C_below HCY88.out hbc) (Kd.C_below HC88.out hbc) hcy hcl (by omega) (by omega)).mono ?_; rw [hsm]; rintro e wS ⟨rfl, hbS⟩; have hbc := below_next hbc hbS)
            | (go_at_call 10; refine (may_no A2 n2 c2 _ _ HN2.out (by rw [HN2.out]; exact Kd.C_below HC2L.out hbc) hc2 hn2l (HLS.out h2 h4)).mono ?_; rintro e wM ⟨rfl, hbM⟩; have hbc := below_next hbc hbM)
            | (go_at_call 14; refine (acl_From.calls _ _ _ HFR.out).mono ?_; rintro e wF ⟨vF, rfl, hRF, hbF⟩; obtain ⟨AF, cF, rfl, hcF, hCF⟩ := Kd.R_reads hRF; have hbc := below_next hbc hbF)
            | (go_at_call 12; refine (mode_any AF cF (fromL (m % 512)) _ hCF hcF (by rw [show (fromL (m % 512)).length = 3 from rfl]; decide) HF.out.2.1 HF.out.2.2.1 HF.out.2.2.2.1 HF.out.2.2.2.2).mono ?_; rw [HF.out.1]; rintro e wO ⟨rfl, hbO⟩; have hbc := below_next hbc hbO)
            | (go_at_call 11; refine (awake_any _ (HG.out.below (below_next HB88.out hbc))).mono ?_; rintro e wA ⟨rfl, hbA⟩; have hbc := below_next hbc hbA))
        all_goals
          go_ret
          exact ⟨rfl, below_next HB88.out hbc⟩
      · go_wp2_with fail
        rw [HBK2.out]
        go_simp
        go_wp2_with (first
            | (go_at_call 18; refine (same_any Ay (some ad) cy cl Yl L _ (Kd.C_below HCY88.out hbc) (Kd.C_below HC88.out hbc) hcy hcl (by omega) (by omega)).mono ?_; rw [hsm]; rintro e wS ⟨rfl, hbS⟩; have hbc := below_next hbc hbS)
            | (go_at_call 10; refine (may_no A2 n2 c2 _ _ HN2.out (by rw [HN2.out]; exact Kd.C_below HC2L.out hbc) hc2 hn2l (HLS.out h2 h4)).mono ?_; rintro e wM ⟨rfl, hbM⟩; have hbc := below_next hbc hbM)
            | (go_at_call 14; refine (acl_From.calls _ _ _ HFR.out).mono ?_; rintro e wF ⟨vF, rfl, hRF, hbF⟩; obtain ⟨AF, cF, rfl, hcF, hCF⟩ := Kd.R_reads hRF; have hbc := below_next hbc hbF)
            | (go_at_call 12; refine (mode_any AF cF (fromL (m % 512)) _ hCF hcF (by rw [show (fromL (m % 512)).length = 3 from rfl]; decide) HF.out.2.1 HF.out.2.2.1 HF.out.2.2.2.1 HF.out.2.2.2.2).mono ?_; rw [HF.out.1]; rintro e wO ⟨rfl, hbO⟩; have hbc := below_next hbc hbO)
            | (go_at_call 11; refine (awake_any _ (HG.out.below (below_next HB88.out hbc))).mono ?_; rintro e wA ⟨rfl, hbA⟩; have hbc := below_next hbc hbA))
        all_goals
          go_ret
          exact ⟨rfl, below_next HB88.out hbc⟩
  · have hq2 : ¬ mkS T' = mkS T := fun h => hq (mkS_inj.1 h)
    by_cases h2 : t = 2
    · subst h2
      go_wp2_with fail
      rw [HBK2.out]
      go_simp
      go_wp2_with (first
          | (go_at_call 18; refine (same_any Ay (some ad) cy cl Yl L _ (Kd.C_below HCY88.out hbc) (Kd.C_below HC88.out hbc) hcy hcl (by omega) (by omega)).mono ?_; rw [hsm]; rintro e wS ⟨rfl, hbS⟩; have hbc := below_next hbc hbS)
          | (go_at_call 10; refine (may_no A2 n2 c2 _ _ HN2.out (by rw [HN2.out]; exact Kd.C_below HC2L.out hbc) hc2 hn2l (HLS.out h2 h4)).mono ?_; rintro e wM ⟨rfl, hbM⟩; have hbc := below_next hbc hbM)
          | (go_at_call 14; refine (acl_From.calls _ _ _ HFR.out).mono ?_; rintro e wF ⟨vF, rfl, hRF, hbF⟩; obtain ⟨AF, cF, rfl, hcF, hCF⟩ := Kd.R_reads hRF; have hbc := below_next hbc hbF)
          | (go_at_call 12; refine (mode_any AF cF (fromL (m % 512)) _ hCF hcF (by rw [show (fromL (m % 512)).length = 3 from rfl]; decide) HF.out.2.1 HF.out.2.2.1 HF.out.2.2.2.1 HF.out.2.2.2.2).mono ?_; rw [HF.out.1]; rintro e wO ⟨rfl, hbO⟩; have hbc := below_next hbc hbO)
          | (go_at_call 11; refine (awake_any _ (HG.out.below (below_next HB88.out hbc))).mono ?_; rintro e wA ⟨rfl, hbA⟩; have hbc := below_next hbc hbA))
      all_goals
        go_ret
        exact ⟨rfl, below_next HB88.out hbc⟩
    · by_cases h4 : t = 4
      · subst h4
        go_wp2_with fail
        rw [HBK2.out]
        go_simp
        go_wp2_with (first
            | (go_at_call 18; refine (same_any Ay (some ad) cy cl Yl L _ (Kd.C_below HCY88.out hbc) (Kd.C_below HC88.out hbc) hcy hcl (by omega) (by omega)).mono ?_; rw [hsm]; rintro e wS ⟨rfl, hbS⟩; have hbc := below_next hbc hbS)
            | (go_at_call 10; refine (may_no A2 n2 c2 _ _ HN2.out (by rw [HN2.out]; exact Kd.C_below HC2L.out hbc) hc2 hn2l (HLS.out h2 h4)).mono ?_; rintro e wM ⟨rfl, hbM⟩; have hbc := below_next hbc hbM)
            | (go_at_call 14; refine (acl_From.calls _ _ _ HFR.out).mono ?_; rintro e wF ⟨vF, rfl, hRF, hbF⟩; obtain ⟨AF, cF, rfl, hcF, hCF⟩ := Kd.R_reads hRF; have hbc := below_next hbc hbF)
            | (go_at_call 12; refine (mode_any AF cF (fromL (m % 512)) _ hCF hcF (by rw [show (fromL (m % 512)).length = 3 from rfl]; decide) HF.out.2.1 HF.out.2.2.1 HF.out.2.2.2.1 HF.out.2.2.2.2).mono ?_; rw [HF.out.1]; rintro e wO ⟨rfl, hbO⟩; have hbc := below_next hbc hbO)
            | (go_at_call 11; refine (awake_any _ (HG.out.below (below_next HB88.out hbc))).mono ?_; rintro e wA ⟨rfl, hbA⟩; have hbc := below_next hbc hbA))
        all_goals
          go_ret
          exact ⟨rfl, below_next HB88.out hbc⟩
      · go_wp2_with fail
        rw [HBK2.out]
        go_simp
        go_wp2_with (first
            | (go_at_call 18; refine (same_any Ay (some ad) cy cl Yl L _ (Kd.C_below HCY88.out hbc) (Kd.C_below HC88.out hbc) hcy hcl (by omega) (by omega)).mono ?_; rw [hsm]; rintro e wS ⟨rfl, hbS⟩; have hbc := below_next hbc hbS)
            | (go_at_call 10; refine (may_no A2 n2 c2 _ _ HN2.out (by rw [HN2.out]; exact Kd.C_below HC2L.out hbc) hc2 hn2l (HLS.out h2 h4)).mono ?_; rintro e wM ⟨rfl, hbM⟩; have hbc := below_next hbc hbM)
            | (go_at_call 14; refine (acl_From.calls _ _ _ HFR.out).mono ?_; rintro e wF ⟨vF, rfl, hRF, hbF⟩; obtain ⟨AF, cF, rfl, hcF, hCF⟩ := Kd.R_reads hRF; have hbc := below_next hbc hbF)
            | (go_at_call 12; refine (mode_any AF cF (fromL (m % 512)) _ hCF hcF (by rw [show (fromL (m % 512)).length = 3 from rfl]; decide) HF.out.2.1 HF.out.2.2.1 HF.out.2.2.2.1 HF.out.2.2.2.2).mono ?_; rw [HF.out.1]; rintro e wO ⟨rfl, hbO⟩; have hbc := below_next hbc hbO)
            | (go_at_call 11; refine (awake_any _ (HG.out.below (below_next HB88.out hbc))).mono ?_; rintro e wA ⟨rfl, hbA⟩; have hbc := below_next hbc hbA))
        all_goals
          go_ret
          exact ⟨rfl, below_next HB88.out hbc⟩
/-- As the row hands it over. -/
theorem back_row (A : Option Addr) (len c : Nat) (zs : List Int) (m at_ by_ k : Int) (w : World) (hG : Good w)
    (hr : (A = none ∧ len = 0 ∧ c = 0 ∧ zs = []) ∨ ∃ x, A = some x ∧ len ≤ c ∧ c ≤ maxLen ∧ zs.length = c ∧ (∀ i, i < zs.length → w.cell? (x.add i) = some (.int .u8 (zs.getD i 0))) ∧ ∀ n ∈ zs, (Lit.int .u8 n).wf = true)
    (h0 : 0 ≤ m ∧ m ≤ 65535) (h1 : 0 ≤ at_ ∧ at_ ≤ 255) (h2 : 0 ≤ by_ ∧ by_ ≤ 255) (h3 : 0 ≤ k ∧ k ≤ 255) :
    Calls Tryd.prog 7 #[.slice A len c, .int .u16 m, .int .u8 at_, .int .u8 by_, .int .u8 k] w fun e w' => e = .returned (.bool true) ∧ Below w.heap.size w w' := by
  rcases hr with ⟨rfl, rfl, rfl, rfl⟩ | ⟨x, rfl, hlc, hcm, hzl, hcell, hwf⟩
  · exact back_walk none 0 [] m at_ by_ k w hG ⟨rfl, by decide, fun h => absurd h (by decide)⟩ (by simp) (Nat.le_refl _) h0 h1 h2 h3
  · have hl : (zs.take len).length = len := by rw [List.length_take]; omega
    have hw := back_walk (some x) c (zs.take len) m at_ by_ k w hG ⟨rfl, by rw [hl]; unfold maxLen at hcm; omega, fun _ => ⟨x, rfl, fun j hj => by
      rw [hl] at hj
      rw [hcell j (by omega), List.getD_eq_getElem?_getD, List.getD_eq_getElem?_getD, List.getElem?_take_of_lt hj]⟩⟩ (fun n hn => wf_u8 (hwf n (List.mem_of_mem_take hn))) (by rw [hl]; exact hlc) h0 h1 h2 h3
    rw [hl] at hw
    exact hw
end Go.Proofs.YtejgnnhmeolphaaDoor
