/- StampAll: the walk. -/
import Derived.Test.YtfdfpgkfhcmlcaaDoorPStPx
import Derived.Test.YtfdfpgkfhcmlcaaDoorStampRefP
set_option linter.unusedVariables false
set_option linter.unusedSimpArgs false
namespace Go.Proofs.YtfdfpgkfhcmlcaaDoor
open Go.RowKit Go.Proofs.YtfdfpgkfhcmlcaaDoorW.PrintWords Go.Proofs.YtfdfpgkfhcmlcaaDoor.PStN Go.Proofs.YtfdfpgkfhcmlcaaDoor.PStP
attribute [local go_sem high] eqAT

theorem three_of (x : List UInt8) : ∃ (s n : Int) (b : Bool), gotT (parseT x) = .tuple #[.agg #[.int .i64 s, .int .i64 n], .bool b] ∧ ∀ K, 100 ≤ K → gripsackref1_ParseStamp.f K (mkS x) = some (s, n, b) := by
  cases h : parseT x with
  | none => exact ⟨0, 0, false, rfl, fun K hK => by rw [parseR_f x K hK, h]; rfl⟩
  | some t => exact ⟨t.1, t.2, true, rfl, fun K hK => by rw [parseR_f x K hK, h]; rfl⟩
theorem may_any (s n : Int) (w : World) : Calls Tryd.prog 13 #[.agg #[.int .i64 s, .int .i64 n]] w fun e w' => e = .returned (.bool (mayT s n)) ∧ Below w.heap.size w w' := may_is s n _ rfl w
theorem mayR_any (s n : Int) (w : World) : Calls Tryd.prog 15 #[.agg #[.int .i64 s, .int .i64 n]] w fun e w' => e = .returned (.bool (mayT s n)) ∧ Below w.heap.size w w' := PStN.gripsackref1_MayStamp.calls s n _ w (mayStamp_f s n)
set_option maxHeartbeats 4000000 in
set_option maxRecDepth 100000 in
theorem stampAll_main (a0 a1 b0 b1 : Int) (x : List UInt8) (w : World) (hG : Good w) (hx : x.length ≤ 100) :
    Calls Tryd.prog 5 #[.agg #[.int .i64 a0, .int .i64 a1], .agg #[.int .i64 b0, .int .i64 b1], .string (mkS x)] w fun e w' => e = .returned (.bool true) ∧ Below w.heap.size w w' := by
  have HG := Aside0.mk hG
  clear hG
  obtain ⟨ts, tn, tb, hgot, hrf⟩ := three_of x
  obtain ⟨K, hK⟩ : ∃ K, 100 ≤ K := ⟨100, Nat.le_refl _⟩
  have HPR := Aside0.mk (hrf K hK)
  have HPA := Aside0.mk (fun W (hGW : Good W) => show Calls Tryd.prog 11 #[.string (mkS x)] W fun e w' => e = .returned (.tuple #[.agg #[.int .i64 ts, .int .i64 tn], .bool tb]) ∧ Below W.heap.size W w' from by
    rw [← hgot]; exact parse_any x W hGW (by omega))
  clear hgot hrf hK
  obtain ⟨ma, hma⟩ : ∃ ma, mayT a0 a1 = ma := ⟨_, rfl⟩
  obtain ⟨mb, hmb⟩ : ∃ mb, mayT b0 b1 = mb := ⟨_, rfl⟩
  have HMA := Aside0.mk (fun W => hma ▸ may_any a0 a1 W)
  have HMAR := Aside0.mk (fun W => hma ▸ mayR_any a0 a1 W)
  have HMBR := Aside0.mk (fun W => hmb ▸ mayR_any b0 b1 W)
  have HM := Aside0.mk hma
  have HMB := Aside0.mk hmb
  clear hma hmb
  go_enter Tryd.func5, Tryd.ntmps5
  go_wp2_with fail
  have gA := blk_alloc (heap_alloc_new w (.cells #[.int .i64 a0, .int .i64 a1] 24)) (.cells #[.int .i64 b0, .int .i64 b1] 24)
  have gB := heap_alloc_new (w.alloc (.cells #[.int .i64 a0, .int .i64 a1] 24)) (.cells #[.int .i64 b0, .int .i64 b1] 24)
  have HB2 := Aside0.mk (below_alloc (below_alloc (Below.refl w.heap.size w) (.cells #[.int .i64 a0, .int .i64 a1] 24)) (.cells #[.int .i64 b0, .int .i64 b1] 24))
  rw [show (w.alloc (.cells #[.int .i64 a0, .int .i64 a1] 24)).heap.size = w.heap.size + 1 by simp] at gB
  generalize (w.alloc (.cells #[.int .i64 a0, .int .i64 a1] 24)).alloc (.cells #[.int .i64 b0, .int .i64 b1] 24) = w2 at gA gB HB2 ⊢
  refine (HPA.out w2 (HG.out.below HB2.out)).mono ?_
  rintro e w3 ⟨rfl, hb3⟩
  have HB3 := Aside0.mk (below_alloc (below_next HB2.out hb3) (.cells #[.int .i64 ts, .int .i64 tn] 24))
  have gA3 := blk_alloc ((hb3.block _ (blk_lt gA)).trans gA) (.cells #[.int .i64 ts, .int .i64 tn] 24)
  have gB3 := blk_alloc ((hb3.block _ (blk_lt gB)).trans gB) (.cells #[.int .i64 ts, .int .i64 tn] 24)
  have gT3 := heap_alloc_new w3 (.cells #[.int .i64 ts, .int .i64 tn] 24)
  clear hb3 gA gB
  go_wp2_with fail
  obtain ⟨nT, hnT⟩ : ∃ nT, w3.heap.size = nT := ⟨_, rfl⟩
  rw [hnT] at gT3 ⊢
  generalize w3.alloc (.cells #[.int .i64 ts, .int .i64 tn] 24) = w4 at HB3 gA3 gB3 gT3 ⊢
  refine (PStP.gripsackref1_ParseStamp.calls K (mkS x) ts tn tb w4 HPR.out).mono ?_
  rintro e w5 ⟨rfl, hb5⟩
  have HB5 := Aside0.mk (below_alloc (below_next HB3.out hb5) (.cells #[.int .i64 ts, .int .i64 tn, .bool tb] 35))
  have gA5 := blk_alloc ((hb5.block _ (blk_lt gA3)).trans gA3) (.cells #[.int .i64 ts, .int .i64 tn, .bool tb] 35)
  have gB5 := blk_alloc ((hb5.block _ (blk_lt gB3)).trans gB3) (.cells #[.int .i64 ts, .int .i64 tn, .bool tb] 35)
  have gT5 := blk_alloc ((hb5.block _ (blk_lt gT3)).trans gT3) (.cells #[.int .i64 ts, .int .i64 tn, .bool tb] 35)
  have gX5 := heap_alloc_new w5 (.cells #[.int .i64 ts, .int .i64 tn, .bool tb] 35)
  clear hb5 gA3 gB3 gT3 hnT
  go_wp2_with fail
  obtain ⟨nX, hnX⟩ : ∃ nX, w5.heap.size = nX := ⟨_, rfl⟩
  rw [hnX] at gX5 ⊢
  generalize w5.alloc (.cells #[.int .i64 ts, .int .i64 tn, .bool tb] 35) = w6 at HB5 gA5 gB5 gT5 gX5 ⊢
  clear hnX
  have kp : ∀ W, Below w6.heap.size w6 W → W.cell? ⟨w.heap.size, 0, none⟩ = some (.int .i64 a0) ∧ W.cell? ⟨w.heap.size, 1, none⟩ = some (.int .i64 a1) ∧ W.cell? ⟨w.heap.size + 1, 0, none⟩ = some (.int .i64 b0) ∧ W.cell? ⟨w.heap.size + 1, 1, none⟩ = some (.int .i64 b1) ∧ W.cell? ⟨nT, 0, none⟩ = some (.int .i64 ts) ∧ W.cell? ⟨nT, 1, none⟩ = some (.int .i64 tn) ∧ W.cell? ⟨nX, 0, none⟩ = some (.int .i64 ts) ∧ W.cell? ⟨nX, 1, none⟩ = some (.int .i64 tn) ∧ W.cell? ⟨nX, 2, none⟩ = some (.bool tb) ∧ Aside0 (Below w6.heap.size w6 W) := fun W hb =>
    ⟨(hb.cell (p := ⟨_, 0, none⟩) (blk_lt gA5)).trans (blk_cell gA5 0), (hb.cell (p := ⟨_, 1, none⟩) (blk_lt gA5)).trans (blk_cell gA5 1), (hb.cell (p := ⟨_, 0, none⟩) (blk_lt gB5)).trans (blk_cell gB5 0), (hb.cell (p := ⟨_, 1, none⟩) (blk_lt gB5)).trans (blk_cell gB5 1), (hb.cell (p := ⟨_, 0, none⟩) (blk_lt gT5)).trans (blk_cell gT5 0), (hb.cell (p := ⟨_, 1, none⟩) (blk_lt gT5)).trans (blk_cell gT5 1), (hb.cell (p := ⟨_, 0, none⟩) (blk_lt gX5)).trans (blk_cell gX5 0), (hb.cell (p := ⟨_, 1, none⟩) (blk_lt gX5)).trans (blk_cell gX5 1), (hb.cell (p := ⟨_, 2, none⟩) (blk_lt gX5)).trans (blk_cell gX5 2), ⟨hb⟩⟩
  have KP := Aside0.mk kp
  clear kp gA5 gB5 gT5 gX5
  have HG6 := Aside0.mk (HG.out.below HB5.out)
  have HR0 := Aside0.mk (Below.refl w6.heap.size w6)
  go_region_held3 (fun W => W.cell? ⟨w.heap.size, 0, none⟩ = some (.int .i64 a0) ∧ W.cell? ⟨w.heap.size, 1, none⟩ = some (.int .i64 a1) ∧ W.cell? ⟨w.heap.size + 1, 0, none⟩ = some (.int .i64 b0) ∧ W.cell? ⟨w.heap.size + 1, 1, none⟩ = some (.int .i64 b1) ∧ W.cell? ⟨nT, 0, none⟩ = some (.int .i64 ts) ∧ W.cell? ⟨nT, 1, none⟩ = some (.int .i64 tn) ∧ W.cell? ⟨nX, 0, none⟩ = some (.int .i64 ts) ∧ W.cell? ⟨nX, 1, none⟩ = some (.int .i64 tn) ∧ W.cell? ⟨nX, 2, none⟩ = some (.bool tb) ∧ Aside0 (Below w6.heap.size w6 W))
    (first
      | exact KP.out _ (below_drew HR0.out)
      | exact KP.out _ hbq)
    ((go_split_ands
      have hbw := Aside0.out (by assumption : Aside0 (Below w6.heap.size w6 _))
      first
      | (go_at_call 13; refine (HMA.out _).mono ?_; rintro e wp ⟨rfl, hbp⟩; have hbq := below_next hbw hbp)
      | (go_at_call 15; refine (HMAR.out _).mono ?_; rintro e wp ⟨rfl, hbp⟩; have hbq := below_next hbw hbp)))
  obtain ⟨u0, u1, u2, u3, u4, u5, u6, u7, u8, HR1⟩ := KP.out _ hbq
  clear hbw hbp hbq
  rename_i wp _ _ _ _
  have HT := Aside0.mk (fun W (hGW : Good W) (hm : mayT a0 a1 = true) => text_any a0 a1 W hGW hm)
  have HTR := Aside0.mk (fun W (hm : mayT a0 a1 = true) => textR_any a0 a1 W hm)
  have HC := Aside0.mk (fun W => cmp_any a0 a1 b0 b1 W)
  have HCR := Aside0.mk (fun W => cmpR_any a0 a1 b0 b1 W)
  obtain ⟨ta, hta⟩ : ∃ ta, textT a0 a1 = ta := ⟨_, rfl⟩
  obtain ⟨kc, hkc⟩ : ∃ kc, cmpT a0 a1 b0 b1 = kc := ⟨_, rfl⟩
  rw [hta] at HT HTR
  rw [hkc] at HC HCR
  clear hta hkc
  cases ma with
  | false =>
    go_wp2_with (first
      | (go_at_call 15; refine (HMAR.out _).mono ?_; rintro e w8 ⟨rfl, hb8⟩; have HR2 := Aside0.mk (below_next HR1.out hb8))
      | (go_at_call 12; refine (awake_any _ (HG6.out.below HR2.out)).mono ?_; rintro e wz ⟨rfl, hbz⟩))
    go_ret
    exact ⟨rfl, below_next (below_next HB5.out HR2.out) hbz⟩
  | true =>
    cases mb with
    | false =>
      go_wp2_with (first
        | (go_at_call 15; have hh := HR2; refine (HMBR.out _).mono ?_; rintro e w9 ⟨rfl, hb9⟩; have HR3 := Aside0.mk (below_next HR2.out hb9))
        | (go_at_call 15; refine (HMAR.out _).mono ?_; rintro e w8 ⟨rfl, hb8⟩; have HR2 := Aside0.mk (below_next HR1.out hb8); clear u0 u1 u2 u3 u4 u5 u6 u7 u8; obtain ⟨u0, u1, u2, u3, u4, u5, u6, u7, u8, -⟩ := KP.out _ HR2.out)
        | (go_at_call 12; refine (awake_any _ (HG6.out.below HR3.out)).mono ?_; rintro e wz ⟨rfl, hbz⟩))
      go_ret
      exact ⟨rfl, below_next (below_next HB5.out HR3.out) hbz⟩
    | true =>
      go_wp2_with (first
        | (go_at_call 15; have hh := HR2; refine (HMBR.out _).mono ?_; rintro e w9 ⟨rfl, hb9⟩; have HR3 := Aside0.mk (below_next HR2.out hb9))
        | (go_at_call 15; refine (HMAR.out _).mono ?_; rintro e w8 ⟨rfl, hb8⟩; have HR2 := Aside0.mk (below_next HR1.out hb8); clear u0 u1 u2 u3 u4 u5 u6 u7 u8; obtain ⟨u0, u1, u2, u3, u4, u5, u6, u7, u8, -⟩ := KP.out _ HR2.out))
      clear u0 u1 u2 u3 u4 u5 u6 u7 u8 HPA HPR HMAR HMBR hh hb8 hb9
      have HG9 := Aside0.mk (HG6.out.below HR3.out)
      have kp9 : ∀ W, Below w9.heap.size w9 W → W.cell? ⟨w.heap.size, 0, none⟩ = some (.int .i64 a0) ∧ W.cell? ⟨w.heap.size, 1, none⟩ = some (.int .i64 a1) ∧ W.cell? ⟨w.heap.size + 1, 0, none⟩ = some (.int .i64 b0) ∧ W.cell? ⟨w.heap.size + 1, 1, none⟩ = some (.int .i64 b1) ∧ Aside0 (Below w9.heap.size w9 W) := fun W hb => by
        obtain ⟨u0, u1, u2, u3, -⟩ := KP.out W (below_next HR3.out hb)
        exact ⟨u0, u1, u2, u3, ⟨hb⟩⟩
      have KP9 := Aside0.mk kp9
      have HR9 := Aside0.mk (Below.refl w9.heap.size w9)
      clear kp9 KP
      go_region_held3 (fun W => W.cell? ⟨w.heap.size, 0, none⟩ = some (.int .i64 a0) ∧ W.cell? ⟨w.heap.size, 1, none⟩ = some (.int .i64 a1) ∧ W.cell? ⟨w.heap.size + 1, 0, none⟩ = some (.int .i64 b0) ∧ W.cell? ⟨w.heap.size + 1, 1, none⟩ = some (.int .i64 b1) ∧ Aside0 (Below w9.heap.size w9 W))
        (first
          | exact KP9.out _ (below_drew HR9.out)
          | exact KP9.out _ hbq)
        ((go_split_ands
          have hbw := Aside0.out (by assumption : Aside0 (Below w9.heap.size w9 _))
          first
          | (go_at_call 10; refine (HT.out _ (HG9.out.below hbw) HM.out).mono ?_; rintro e wp ⟨rfl, hbp⟩; have hbq := below_next hbw hbp)
          | (go_at_call 16; refine (HTR.out _ HM.out).mono ?_; rintro e wp ⟨rfl, hbp⟩; have hbq := below_next hbw hbp)
          | (go_at_call 17; refine (HC.out _).mono ?_; rintro e wp ⟨rfl, hbp⟩; have hbq := below_next hbw hbp)
          | (go_at_call 18; refine (HCR.out _).mono ?_; rintro e wp ⟨rfl, hbp⟩; have hbq := below_next hbw hbp)
          | (go_at_call 12; refine (awake_any _ (HG9.out.below hbw)).mono ?_; rintro e wp ⟨rfl, hbp⟩; have hbq := below_next hbw hbp)))
      all_goals
        go_wp2_with fail
        go_ret
        exact ⟨rfl, below_next (below_next HB5.out HR3.out) hbq⟩
/-- As the row hands it over. -/
theorem stampAll_row (a0 a1 b0 b1 : Int) (s : ByteArray) (w : World) (hG : Good w) (hs : s.size ≤ 140737488351232) :
    Calls Tryd.prog 5 #[.agg #[.int .i64 a0, .int .i64 a1], .agg #[.int .i64 b0, .int .i64 b1], .string s] w fun e w' => e = .returned (.bool true) ∧ Below w.heap.size w w' := by
  obtain ⟨x, rfl⟩ := exists_mkS s
  rw [size_mkS] at hs
  by_cases h : x.length ≤ 100
  · exact stampAll_main a0 a1 b0 b1 x w hG h
  · have h2 : (100 : Int) < (x.length : Int) := by omega
    have HG := Aside0.mk hG
    clear hG
    have HB2 := Aside0.mk (below_alloc (below_alloc (Below.refl w.heap.size w) (.cells #[.int .i64 a0, .int .i64 a1] 24)) (.cells #[.int .i64 b0, .int .i64 b1] 24))
    go_enter Tryd.func5, Tryd.ntmps5
    go_wp2_with (go_at_call 12; refine (awake_any _ (HG.out.below HB2.out)).mono ?_; rintro e wz ⟨rfl, hbz⟩)
    go_ret
    exact ⟨rfl, below_next HB2.out hbz⟩
end Go.Proofs.YtfdfpgkfhcmlcaaDoor
