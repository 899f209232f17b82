/- The statements' helper text. -/
import Derived.Test.YtpmiddhdgidimaaDoorHeadMakePlain
import Derived.Test.YtpmiddhdgidimaaDoorHeadGood
import Derived.Test.YtpmiddhdgidimaaDoorStr
set_option linter.unusedVariables false
set_option linter.unusedSimpArgs false
namespace Go.Proofs.YtpmiddhdgidimaaDoor
open Go.RowKit Go.Proofs.YtpmiddhdgidimaaDoorW.PrintWords

def cleanB (c : UInt8) : UInt8 := if c = 0 then 48 else c
def cleanTo (l : List UInt8) (j : Nat) : List UInt8 := (l.take j).map cleanB ++ l.drop j
theorem cleanTo_length (l : List UInt8) (j : Nat) : (cleanTo l j).length = l.length := by simp [cleanTo]; omega
theorem cleanTo_zero (l : List UInt8) : cleanTo l 0 = l := by simp [cleanTo]
theorem cleanTo_all (l : List UInt8) : cleanTo l l.length = clean l := by simp [cleanTo, clean, cleanB]
theorem cleanTo_at (l : List UInt8) (j : Nat) (h : j < l.length) : (cleanTo l j).getD j 0 = l[j] := by
  unfold cleanTo
  rw [List.getD_eq_getElem?_getD, List.getElem?_append_right (by simp; omega)]
  simp only [List.length_map, List.length_take, List.getElem?_drop]
  rw [show min j l.length = j by omega, show j + (j - j) = j by omega, List.getElem?_eq_getElem h]
  rfl
theorem cleanTo_set (l : List UInt8) (j : Nat) (h : j < l.length) (hb : cleanB l[j] = 48) : (cleanTo l j).set j 48 = cleanTo l (j + 1) := by
  unfold cleanTo
  rw [List.set_append_right _ _ (by simp; omega)]
  simp only [List.length_map, List.length_take]
  rw [show min j l.length = j by omega, Nat.sub_self, List.drop_eq_getElem_cons h, List.set_cons_zero, List.take_succ_eq_append_getElem h, List.map_append, List.append_assoc]
  simp [hb]
theorem cleanTo_skip (l : List UInt8) (j : Nat) (h : j < l.length) (hb : cleanB l[j] = l[j]) : cleanTo l j = cleanTo l (j + 1) := by
  unfold cleanTo
  rw [List.drop_eq_getElem_cons h, List.take_succ_eq_append_getElem h, List.map_append, List.append_assoc]
  simp [hb]
set_option maxHeartbeats 2000000 in
set_option maxRecDepth 100000 in
theorem lawText_any (l0 : List UInt8) (n : Nat) (w : World) (hn : n ≤ 1000) (hl0 : l0.length ≤ 140737488351232) :
    Calls Tryd.prog 17 #[.string (mkS l0), .int .i64 (n : Int)] w fun e w' => e = .returned (.string (mkS (textM l0 n))) ∧ Below w.heap.size w w' := by
  unfold textM
  obtain ⟨l, hl⟩ : ∃ l, l0.take n = l := ⟨_, rfl⟩
  rw [hl]
  have hll : l.length ≤ 1000 := by rw [← hl, List.length_take]; omega
  have x0 : min (l0.length : Int) n = (l.length : Int) := by rw [← hl, List.length_take]; omega
  have x1 : (mkS l0).extract 0 l.length = mkS l := by
    rw [extract_mkS, ← hl, List.drop_zero, Nat.sub_zero, List.length_take]
    congr 1
    by_cases h : n ≤ l0.length
    · rw [Nat.min_eq_left h]
    · rw [Nat.min_eq_right (by omega), List.take_length, List.take_of_length_le (by omega)]
  have y1 : (0 : Int) ≤ l.length := by omega
  have y2 : (l.length : Int) ≤ l0.length := by rw [← hl, List.length_take]; omega
  obtain ⟨w5, cap, hcv, hb5, hz5, hB5⟩ := conv_world (P := Tryd.prog) w 9 34 5 (mkS l) Tryd.underlying9 Tryd.underlying34 Tryd.underlying5
  rw [data_mkS] at hB5
  rw [size_mkS] at hcv
  clear hl
  go_enter Tryd.func17, Tryd.ntmps17
  go_wp2_with fail
  have HB5 := Aside0.mk hB5
  have hbb := Aside0.mk hb5
  clear hcv hB5 hb5 x0 x1 y1 y2 hz5
  go_loopw [6] (fun v wq => ∃ j : Nat, j ≤ l.length ∧ v = .int .i64 j ∧ Aside0 (Bytes wq w.heap.size (cleanTo l j)) ∧ Aside0 (Below w.heap.size w wq)) (fun v _ => l.length - (intOf v).toNat)
  case atStart => exact ⟨0, Nat.zero_le _, rfl, ⟨by rw [cleanTo_zero]; exact HB5.out⟩, hbb⟩
  case round =>
    obtain ⟨j, hj, rfl, HBY, HBQ⟩ := hrel
    by_cases hjl : j < l.length
    · have hjl' : (j : Int) < (l.length : Int) := by omega
      have hd2 : j < (cleanTo l j).length := by rw [cleanTo_length]; exact hjl
      have c0 := HBY.out.cell j hd2
      have f0 := HBY.out.free j hd2
      rw [cleanTo_at l j hjl] at c0
      have hset := HBY.out.set j hd2 48
      have HS := Aside0.mk (fun h : cleanB l[j] = 48 => cleanTo_set l j hjl h ▸ hset)
      have HK2 := Aside0.mk (fun h : cleanB l[j] = l[j] => cleanTo_skip l j hjl h ▸ HBY.out)
      clear hset hd2
      generalize l[j] = b at *
      have hw1 : IntKind.i64.wrap ((j : Int) + 1) = (j : Int) + 1 := by rw [IntKind.wrap_i64]; omega
      by_cases hb0 : b = 0
      · subst hb0
        go_wp2_with fail
        exact ⟨⟨j + 1, by omega, by go_num, ⟨by simpa using HS.out (by decide)⟩, ⟨HBQ.out.setCell (Nat.le_refl _) _⟩⟩, by simp [intOf]; omega⟩
      · have HD := Aside0.mk (HK2.out (by unfold cleanB; rw [if_neg hb0]))
        have e0 : ((b.toNat : Int) == 0) = false := by
          have : b.toNat ≠ 0 := fun h => hb0 (UInt8.toNat_inj.1 h)
          simp; omega
        clear hb0
        go_wp2_with fail
        exact ⟨⟨j + 1, by omega, by go_num, HD, HBQ⟩, by simp [intOf]; omega⟩
    · obtain rfl : j = l.length := by omega
      rw [cleanTo_all] at HBY
      have hbk := HBY.out.back (P := Tryd.prog) 34 9 5 cap l.length (clean_length l).symm Tryd.underlying34 Tryd.underlying5 Tryd.underlying9
      go_wp2
      go_ret
      exact ⟨rfl, HBQ.out⟩
end Go.Proofs.YtpmiddhdgidimaaDoor
