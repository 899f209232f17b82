/- rec.May, rec.Put, rec.must: which records may be. -/
import Derived.Test.YtldimdlobgnnpaaDoorRecA
import Derived.Test.YtldimdlobgnnpaaDoorContains
set_option linter.unusedVariables false
set_option linter.unusedSimpArgs false
namespace Go.Proofs.YtldimdlobgnnpaaDoor
open Go.RowKit Go.Proofs.YtldimdlobgnnpaaDoorW.PrintWords

theorem ret_bool {a b : Bool} (h : a = b) : Ending.returned (.bool a) = .returned (.bool b) := by rw [h]
theorem containsAny_is (l : List UInt8) (b : Bool) (h : hasTwo l = b) (w : World) (hs : l.length < 4294967281) :
    Calls Tryd.prog 25 #[.string (mkS l), .string ⟨#[0, 61]⟩] w fun e w' => e = .returned (.bool b) ∧ Below w.heap.size w w' := by
  subst h; exact containsAny_any l w hs
set_option maxHeartbeats 1000000 in
theorem may_any (k v : List UInt8) (w : World) (hG : Good w) (hl : k.length + v.length ≤ 1000000) :
    Calls Tryd.prog 12 #[.agg #[.string (mkS k), .string (mkS v)]] w fun e w' => e = .returned (.bool (mayR k v)) ∧ Below w.heap.size w w' := by
  have HG := Aside0.mk hG
  clear hG
  have HB0 := Aside0.mk (below_alloc (Below.refl w.heap.size w) (.cells #[.string (mkS k), .string (mkS v)] 25))
  cases k with
  | nil =>
    have hm : mayR [] v = false := rfl
    rw [hm]
    clear hm
    have hemp : (mkS ([] : List UInt8)).toList.isEmpty = true := by simp
    go_enter Tryd.func12, Tryd.ntmps12
    go_wp2_with fail
    go_ret
    exact ⟨rfl, HB0.out⟩
  | cons k0 kr =>
    obtain ⟨k, hk⟩ : ∃ k, k0 :: kr = k := ⟨_, rfl⟩
    have hke : k.isEmpty = false := by rw [← hk]; rfl
    have hkn : ¬ k = [] := by rw [← hk]; simp
    rw [hk] at hl HB0 ⊢
    clear hk
    by_cases h255 : 255 < k.length
    · have hm : mayR k v = false := by unfold mayR; rw [decide_eq_false (show ¬ k.length ≤ 255 by omega)]; simp
      rw [hm]
      clear hm
      have h255z : decide ((k.length : Int) ≤ 255) = false := decide_eq_false (by omega)
      go_enter Tryd.func12, Tryd.ntmps12
      go_wp2_with fail
      go_ret
      exact ⟨rfl, HB0.out⟩
    · have h255y : (k.length : Int) ≤ 255 := by omega
      have hm0 : mayR k v = (!hasTwo k && decide ((putL k v).length ≤ 65536)) := by
        unfold mayR hasTwo
        rw [hke, decide_eq_true (show k.length ≤ 255 by omega)]
        cases k.contains 0 <;> cases k.contains 61 <;> rfl
      cases h2 : hasTwo k with
      | true =>
        have hm : mayR k v = false := by rw [hm0, h2]; rfl
        rw [hm]
        have H2 := Aside0.mk h2
        clear hm hm0 h2
        go_enter Tryd.func12, Tryd.ntmps12
        go_wp2_with (go_at_call 25; refine (containsAny_is k true H2.out _ (by omega)).mono ?_; rintro e w1 ⟨rfl, hb1⟩)
        go_ret
        exact ⟨rfl, below_next HB0.out hb1⟩
      | false =>
        have hm : mayR k v = decide ((putL k v).length ≤ 65536) := by rw [hm0, h2]; rfl
        have H2 := Aside0.mk h2
        have HM := Aside0.mk hm
        obtain ⟨q, hq⟩ : ∃ q, putL k v = q := ⟨_, rfl⟩
        have HP := Aside0.mk (show ∀ w, Good w → Calls Tryd.prog 22 #[.agg #[.string (mkS k), .string (mkS v)]] w fun e w' => e = .returned (.string (mkS q)) ∧ Below w.heap.size w w' by
          intro w hG; rw [← hq]; exact put_any k v w hG hl)
        have HQ := Aside0.mk hq
        have hq2 : q.length ≤ 1000100 := by
          have h1 := putL_len k v (by rw [restL_len]; omega)
          have h2 := recNum_spec (restL k v).length (by rw [restL_len]; omega)
          rw [hq, restL_len] at h1
          rw [restL_len] at h2
          omega
        clear hm hm0 h2 hq
        have k0 : (w.alloc (.cells #[.string (mkS k), .string (mkS v)] 25)).heap[w.heap.size]? = some (.cells #[.string (mkS k), .string (mkS v)] 25 (0, 0)) := heap_alloc_new w _
        have K0 := Aside0.mk k0
        clear k0
        go_enter Tryd.func12, Tryd.ntmps12
        go_wp2_with (first
          | (go_at_call 25; refine (containsAny_is k false H2.out _ (by omega)).mono ?_; rintro e w1 ⟨rfl, hb1⟩; have k1 := (hb1.block _ (blk_lt K0.out)).trans K0.out; have c0 := blk_cell k1 0; have c1 := blk_cell k1 1; have HB1 := Aside0.mk (below_next HB0.out hb1))
          | (go_at_call 22; refine (HP.out _ (HG.out.below HB1.out)).mono ?_; rintro e w2 ⟨rfl, hb2⟩))
        all_goals
          go_ret
          exact ⟨by rw [HM.out, HQ.out]; exact ret_bool (decide_eq_decide.2 (by omega)), below_next HB1.out hb2⟩
theorem may_is (k v : List UInt8) (b : Bool) (h : mayR k v = b) (w : World) (hG : Good w) (hl : k.length + v.length ≤ 1000000) :
    Calls Tryd.prog 12 #[.agg #[.string (mkS k), .string (mkS v)]] w fun e w' => e = .returned (.bool b) ∧ Below w.heap.size w w' := by
  subst h; exact may_any k v w hG hl
set_option maxHeartbeats 1000000 in
theorem putR_any (k v : List UInt8) (w : World) (hG : Good w) (hl : k.length + v.length ≤ 1000000) :
    Calls Tryd.prog 8 #[.agg #[.string (mkS k), .string (mkS v)]] w fun e w' => e = .returned (.string (mkS (putR k v))) ∧ Below w.heap.size w w' := by
  have HG := Aside0.mk hG
  clear hG
  have HB0 := Aside0.mk (below_alloc (Below.refl w.heap.size w) (.cells #[.string (mkS k), .string (mkS v)] 25))
  have K0 := Aside0.mk (show (w.alloc (.cells #[.string (mkS k), .string (mkS v)] 25)).heap[w.heap.size]? = some (.cells #[.string (mkS k), .string (mkS v)] 25 (0, 0)) from heap_alloc_new w _)
  cases hm : mayR k v with
  | false =>
    have HM := Aside0.mk hm
    clear hm
    go_enter Tryd.func8, Tryd.ntmps8
    go_wp2_with (go_at_call 12; refine (may_is k v false HM.out _ (HG.out.below HB0.out) hl).mono ?_; rintro e w1 ⟨rfl, hb1⟩)
    go_ret
    exact ⟨by unfold putR; rw [HM.out]; rfl, below_next HB0.out hb1⟩
  | true =>
    have HM := Aside0.mk hm
    clear hm
    go_enter Tryd.func8, Tryd.ntmps8
    go_wp2_with (first
      | (go_at_call 12; refine (may_is k v true HM.out _ (HG.out.below HB0.out) hl).mono ?_; rintro e w1 ⟨rfl, hb1⟩; have k1 := (hb1.block _ (blk_lt K0.out)).trans K0.out; have c0 := blk_cell k1 0; have c1 := blk_cell k1 1; have HB1 := Aside0.mk (below_next HB0.out hb1))
      | (go_at_call 22; refine (put_any k v _ (HG.out.below HB1.out) hl).mono ?_; rintro e w2 ⟨rfl, hb2⟩))
    go_ret
    exact ⟨by unfold putR; rw [HM.out]; rfl, below_next HB1.out hb2⟩
theorem putR_is (k v q : List UInt8) (h : putR k v = q) (w : World) (hG : Good w) (hl : k.length + v.length ≤ 1000000) :
    Calls Tryd.prog 8 #[.agg #[.string (mkS k), .string (mkS v)]] w fun e w' => e = .returned (.string (mkS q)) ∧ Below w.heap.size w w' := by
  subst h; exact putR_any k v w hG hl
theorem must_ok (n : Int) (w : World) : Calls Tryd.prog 32 #[.bool true, .int .i64 n] w fun e w' => e = .returned (.tuple #[]) ∧ w' = w := by
  go_enter Tryd.func32, Tryd.ntmps32
  go_wp2
  go_end0
  exact ⟨rfl, rfl⟩
theorem must_bad (n : Int) (w : World) : Calls Tryd.prog 32 #[.bool false, .int .i64 n] w fun e w' => e = .panicked (Chain 53 (.agg #[.int .i64 n])) ∧ w' = w := by
  go_enter Tryd.func32, Tryd.ntmps32
  go_wp2
  exact ⟨rfl, rfl, rfl⟩
end Go.Proofs.YtldimdlobgnnpaaDoor
