/- stamp.Parse, of any text; the statements' own awake. -/
import Derived.Test.YtfdfpgkfhcmlcaaDoorStampMain
import Derived.Test.YtfdfpgkfhcmlcaaDoorWEqStruct
set_option linter.unusedVariables false
set_option linter.unusedSimpArgs false
namespace Go.Proofs.YtfdfpgkfhcmlcaaDoor
open Go.RowKit Go.Proofs.YtfdfpgkfhcmlcaaDoorW.PrintWords

theorem trimPrefix_le (x : List UInt8) : (Lib.trimPrefix x [45]).length ≤ x.length := by
  unfold Lib.trimPrefix
  split
  · simp
  · omega
theorem cutAt_le (c : UInt8) (l : List UInt8) : (cutAt c l).1.length ≤ l.length ∧ (cutAt c l).2.1.length ≤ l.length := by
  rcases cutAt_spec c l with ⟨_, h, _⟩ | ⟨_, h1, h2, _⟩
  · have := congrArg List.length h
    simp at this
    omega
  · rw [h1, h2]; simp
theorem parse_any (x : List UInt8) (w : World) (hG : Good w) (hx : x.length ≤ 1000000) :
    Calls Tryd.prog 11 #[.string (mkS x)] w fun e w' => e = .returned (gotT (parseT x)) ∧ Below w.heap.size w w' := by
  obtain ⟨y, hy⟩ : ∃ y, Lib.trimPrefix x [45] = y := ⟨_, rfl⟩
  obtain ⟨a, b, f, hc⟩ : ∃ a b f, cutAt 46 y = (a, b, f) := ⟨_, _, _, rfl⟩
  have hyl := trimPrefix_le x
  have hcl := cutAt_le 46 y
  rw [hy] at hyl
  rw [hc] at hcl
  simp only at hcl
  unfold parseT
  simp only [hy, hc]
  by_cases hb : 9 < b.length
  · rw [if_pos hb]
    exact parse_long x a b f y hy hc hb w hG hx (by omega)
  · rw [if_neg hb]
    cases ha : Lib.atoiAll a with
    | «syntax» => exact parse_bad1 x a b f y hy hc hb w hG hx (by omega) (by omega) (by rw [ha]; simp)
    | range => exact parse_bad1 x a b f y hy hc hb w hG hx (by omega) (by omega) (by rw [ha]; simp)
    | ok sec =>
      cases hp : Lib.atoiAll (padT b) with
      | «syntax» => exact parse_bad2 x a b f y hy hc hb w hG hx (by omega) (by omega) sec ha (by rw [hp]; simp)
      | range => exact parse_bad2 x a b f y hy hc hb w hG hx (by omega) (by omega) sec ha (by rw [hp]; simp)
      | ok nano =>
        simp only
        by_cases h1 : 1099511627776 < sec
        · rw [if_pos (.inl h1)]
          exact parse_bad3 x a b f y hy hc hb w hG hx (by omega) (by omega) sec nano ha hp h1
        · by_cases h2 : 1000000000 ≤ nano
          · rw [if_pos (.inr h2)]
            exact parse_bad4 x a b f y hy hc hb w hG hx (by omega) (by omega) sec nano ha hp (by omega) h2
          · rw [if_neg (by omega)]
            cases hpre : Lib.hasPrefix x [45] with
            | false =>
              have e : turnT false sec nano = (sec, nano) := rfl
              rw [e]
              unfold isT
              cases hm : mayT sec nano with
              | false =>
                simp only [hm]
                rw [if_neg (by simp)]
                exact parse_pos_may x a b f y hy hc hb w hG hx (by omega) (by omega) sec nano ha hp (by omega) (by omega) hpre hm
              | true =>
                simp only [hm, true_and]
                by_cases ht : textT sec nano = x
                · rw [if_pos ht]
                  exact parse_pos_ok x a b f y hy hc hb w hG hx (by omega) (by omega) sec nano ha hp (by omega) (by omega) hpre hm ht
                · rw [if_neg ht]
                  exact parse_pos_other x a b f y hy hc hb w hG hx (by omega) (by omega) sec nano ha hp (by omega) (by omega) hpre hm _ rfl ht
            | true =>
              by_cases hn : 0 < nano
              · have e : turnT true sec nano = (IntKind.i64.wrap (IntKind.i64.wrap (-sec) - 1), 1000000000 - nano) := by
                  unfold turnT
                  rw [if_pos rfl, if_pos hn]
                  refine Prod.ext rfl ?_
                  simp only [IntKind.wrap_i64]; omega
                rw [e]
                obtain ⟨s, hs⟩ : ∃ s, IntKind.i64.wrap (IntKind.i64.wrap (-sec) - 1) = s := ⟨_, rfl⟩
                obtain ⟨n, hnn⟩ : ∃ n, 1000000000 - nano = n := ⟨_, rfl⟩
                rw [hs, hnn]
                unfold isT
                cases hm : mayT s n with
                | false =>
                  simp only [hm]
                  rw [if_neg (by simp)]
                  exact parse_neg1_may x a b f y hy hc hb w hG hx (by omega) (by omega) sec nano ha hp (by omega) (by omega) hpre hn _ s n rfl hs hnn hm
                | true =>
                  simp only [hm, true_and]
                  by_cases ht : textT s n = x
                  · rw [if_pos ht]
                    exact parse_neg1_ok x a b f y hy hc hb w hG hx (by omega) (by omega) sec nano ha hp (by omega) (by omega) hpre hn _ s n rfl hs hnn hm ht
                  · rw [if_neg ht]
                    exact parse_neg1_other x a b f y hy hc hb w hG hx (by omega) (by omega) sec nano ha hp (by omega) (by omega) hpre hn _ s n rfl hs hnn hm _ rfl ht
              · have e : turnT true sec nano = (IntKind.i64.wrap (-sec), nano) := by
                  unfold turnT
                  rw [if_pos rfl, if_neg hn]
                rw [e]
                obtain ⟨s, hs⟩ : ∃ s, IntKind.i64.wrap (-sec) = s := ⟨_, rfl⟩
                rw [hs]
                unfold isT
                cases hm : mayT s nano with
                | false =>
                  simp only [hm]
                  rw [if_neg (by simp)]
                  exact parse_neg0_may x a b f y hy hc hb w hG hx (by omega) (by omega) sec nano ha hp (by omega) (by omega) hpre (by omega) s hs hm
                | true =>
                  simp only [hm, true_and]
                  by_cases ht : textT s nano = x
                  · rw [if_pos ht]
                    exact parse_neg0_ok x a b f y hy hc hb w hG hx (by omega) (by omega) sec nano ha hp (by omega) (by omega) hpre (by omega) s hs hm ht
                  · rw [if_neg ht]
                    exact parse_neg0_other x a b f y hy hc hb w hG hx (by omega) (by omega) sec nano ha hp (by omega) (by omega) hpre (by omega) s hs hm _ rfl ht
theorem parse_is (x : List UInt8) (o : Option (Int × Int)) (h : parseT x = o) (w : World) (hG : Good w) (hx : x.length ≤ 1000000) :
    Calls Tryd.prog 11 #[.string (mkS x)] w fun e w' => e = .returned (gotT o) ∧ Below w.heap.size w w' := by
  subst h; exact parse_any x w hG hx
theorem awake_text : textT (-2) 500000000 = [45, 49, 46, 53] := by decide +kernel
theorem awake_parse : parseT [45, 49, 46, 53] = some (-2, 500000000) := by
  have := parse_back (s := -2) (n := 500000000) (by decide)
  rw [awake_text] at this
  exact this
set_option maxHeartbeats 1000000 in
set_option maxRecDepth 100000 in
theorem awake_any (w : World) (hG : Good w) : Calls Tryd.prog 12 #[] w fun e w' => e = .returned (.bool true) ∧ Below w.heap.size w w' := by
  have HG := Aside0.mk hG
  clear hG
  have hm : mayT (-2) 500000000 = true := by decide
  have HM := Aside0.mk hm
  clear hm
  go_enter Tryd.func12, Tryd.ntmps12
  go_wp2_with (first
    | (go_at_call 11; refine (parse_is [45, 49, 46, 53] _ awake_parse _ HG.out (by decide)).mono ?_; rintro e w1 ⟨rfl, hb1⟩; simp only [gotT]; have HB1 := Aside0.mk (below_alloc hb1 (.cells #[.int .i64 (-2), .int .i64 500000000] 24)))
    | (go_at_call 10; refine (text_any (-2) 500000000 _ (HG.out.below HB1.out) HM.out).mono ?_; rintro e w2 ⟨rfl, hb2⟩; rw [awake_text]))
  go_ret
  exact ⟨rfl, below_next HB1.out hb2⟩
theorem eqAT (d : Nat) (w : World) (x0 y0 x1 y1 : Int) :
    (Op.equalIn (d + 2) 24 (.agg #[.int .i64 x0, .int .i64 x1]) (.agg #[.int .i64 y0, .int .i64 y1])).run Tryd.prog w = .ok (x0 == y0 && x1 == y1) w := by
  refine eqA_of Tryd.underlying24 (by kernel_rfl) ?_
  refine eqf_cons (by rfl) (by go_simp; rfl) (by go_simp; rfl) (by go_simp) ?_
  exact eqf_last (by rfl) (by go_simp; rfl) (by go_simp; rfl) (by go_simp)
end Go.Proofs.YtfdfpgkfhcmlcaaDoor
