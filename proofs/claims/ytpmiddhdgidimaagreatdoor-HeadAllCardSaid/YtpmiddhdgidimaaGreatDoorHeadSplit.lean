/- head.Split. -/
import Derived.Test.YtpmiddhdgidimaaGreatDoorHeadCells
import Derived.Lib.IndexLaws
set_option linter.unusedVariables false
set_option linter.unusedSimpArgs false
namespace Go.Proofs.YtpmiddhdgidimaaGreatDoor
open Go.RowKit Go.Proofs.YtpmiddhdgidimaaGreatDoorW.PrintWords

/-- A path as a prefix and a name. -/
def splitT (p : List UInt8) : List UInt8 × List UInt8 × Bool :=
  if p.length ≤ 100 then ([], p, true)
  else
    let q := Lib.indexByte (p.drop (p.length - 101)) 47
    if q < 0 then ([], [], false)
    else
      let n := q.toNat + (p.length - 101)
      if n < 1 ∨ 155 < n ∨ n = p.length - 1 then ([], [], false) else (p.take n, p.drop (n + 1), true)
def splitV (p : List UInt8) : Value := .tuple #[.string (mkS (splitT p).1), .string (mkS (splitT p).2.1), .bool (splitT p).2.2]

set_option maxHeartbeats 2000000 in
set_option maxRecDepth 100000 in
theorem split_any (p : List UInt8) (w : World) (hp : p.length ≤ 140737488355328) :
    Calls Tryz.prog 7 #[.string (mkS p)] w fun e w' => e = .returned (splitV p) ∧ Below w.heap.size w w' := by
  by_cases h : p.length ≤ 100
  · have HS : splitV p = .tuple #[.string (mkS []), .string (mkS p), .bool true] := by unfold splitV splitT; rw [if_pos h]
    rw [HS]
    clear HS
    have h' : (p.length : Int) ≤ 100 := by omega
    go_enter Tryz.func7, Tryz.ntmps7
    go_wp2
    go_ret3
    exact ⟨rfl, Below.refl _ _⟩
  · have h' : ¬ (p.length : Int) ≤ 100 := by omega
    obtain ⟨k, hk⟩ : ∃ k : Nat, p.length = k + 101 := ⟨p.length - 101, by omega⟩
    obtain ⟨q, hq⟩ : ∃ q, Lib.indexByte (p.drop k) 47 = q := ⟨_, rfl⟩
    have HIX := Aside0.mk (fun W => show Calls Tryz.prog 23 #[.string (mkS (p.drop k)), .int .u8 47] W fun e w' => e = .returned (.int .i64 q) ∧ w' = W from (by
      have := Tryz.strings_IndexByte (mkS (p.drop k)) 47 W
      rw [data_mkS, show (Int.toNat 47).toUInt8 = (47 : UInt8) from rfl, hq] at this
      exact this))
    have hx : (mkS p).extract k (k + 101) = mkS (p.drop k) := by
      rw [extract_mkS, List.take_of_length_le (by simp; omega)]
    have hge := Lib.indexByte_ge (p.drop k) 47
    rw [hq] at hge
    by_cases hneg : q < 0
    · have HS : splitV p = .tuple #[.string (mkS []), .string (mkS []), .bool false] := by
        unfold splitV splitT
        rw [if_neg h, show p.length - 101 = k by omega]
        simp only [hq, if_pos hneg]
      rw [HS]
      clear HS hq hge
      go_enter Tryz.func7, Tryz.ntmps7
      go_wp2_with (go_at_call 23; refine (HIX.out _).mono ?_; rintro e w1 ⟨rfl, hw1⟩; rw [hw1]; clear hw1)
      go_ret3
      exact ⟨rfl, Below.refl _ _⟩
    · obtain ⟨n, hn⟩ : ∃ n : Nat, q = n := ⟨q.toNat, by omega⟩
      subst hn
      have hlt : n < 101 := by
        have := (Lib.indexByte_some hq).1
        have := (List.getElem?_eq_some_iff.1 this).1
        simp at this
        omega
      have HS : splitV p = if n + k < 1 ∨ 155 < n + k ∨ n + k = p.length - 1 then .tuple #[.string (mkS []), .string (mkS []), .bool false] else .tuple #[.string (mkS (p.take (n + k))), .string (mkS (p.drop (n + k + 1))), .bool true] := by
        unfold splitV splitT
        rw [if_neg h, show p.length - 101 = k by omega]
        simp only [hq, if_neg hneg, Int.toNat_natCast]
        split <;> rfl
      rw [HS]
      clear HS hq hge
      have hnn : ¬ ((n : Int) < 0) := hneg
      have e1 : (k : Int) + 101 - 100 - 1 = k := by omega
      obtain ⟨m, hm⟩ : ∃ m, n + k = m := ⟨_, rfl⟩
      rw [hm]
      have em : (n : Int) + k = m := by omega
      by_cases c : m < 1 ∨ 155 < m ∨ m = p.length - 1
      · rw [if_pos c]
        by_cases c1 : m < 1
        · have d1 : (m : Int) < 1 := by omega
          clear c
          go_enter Tryz.func7, Tryz.ntmps7
          go_wp2_with (go_at_call 23; refine (HIX.out _).mono ?_; rintro e w1 ⟨rfl, hw1⟩; rw [hw1]; clear hw1)
          go_ret3
          exact ⟨rfl, Below.refl _ _⟩
        · have d1 : ¬ (m : Int) < 1 := by omega
          by_cases c2 : 155 < m
          · have d2 : (155 : Int) < m := by omega
            clear c
            go_enter Tryz.func7, Tryz.ntmps7
            go_wp2_with (go_at_call 23; refine (HIX.out _).mono ?_; rintro e w1 ⟨rfl, hw1⟩; rw [hw1]; clear hw1)
            go_ret3
            exact ⟨rfl, Below.refl _ _⟩
          · have d2 : ¬ (155 : Int) < m := by omega
            have d3 : ((m : Int) == (k : Int) + 101 - 1) = true := by rw [beq_iff_eq]; omega
            clear c
            go_enter Tryz.func7, Tryz.ntmps7
            go_wp2_with (go_at_call 23; refine (HIX.out _).mono ?_; rintro e w1 ⟨rfl, hw1⟩; rw [hw1]; clear hw1)
            go_ret3
            exact ⟨rfl, Below.refl _ _⟩
      · rw [if_neg c]
        have d1 : ¬ (m : Int) < 1 := by omega
        have d2 : ¬ (155 : Int) < m := by omega
        have d3 : ((m : Int) == (k : Int) + 101 - 1) = false := by rw [beq_eq_false_iff_ne]; omega
        have x1 : (mkS p).extract 0 m = mkS (p.take m) := by rw [extract_mkS, List.drop_zero, Nat.sub_zero]
        have x2 : (mkS p).extract (m + 1) (k + 101) = mkS (p.drop (m + 1)) := by rw [extract_mkS, List.take_of_length_le (by simp; omega)]
        have y0 : (0 : Int) ≤ m := by omega
        have y1 : (m : Int) ≤ k + 101 := by omega
        have y2 : (m : Int) + 1 ≤ k + 101 := by omega
        have y3 : (0 : Int) ≤ (m : Int) + 1 := by omega
        clear c
        go_enter Tryz.func7, Tryz.ntmps7
        go_wp2_with (go_at_call 23; refine (HIX.out _).mono ?_; rintro e w1 ⟨rfl, hw1⟩; rw [hw1]; clear hw1)
        go_region
        go_wp2_with fail
        go_ret3
        exact ⟨rfl, below_drew (Below.refl _ _)⟩
end Go.Proofs.YtpmiddhdgidimaaGreatDoor
