/- slices.Reverse of bytes. -/
import Derived.Test.YtpmiddhdgidimaaGreatDoorNumOct
import Derived.Deep.RegionLaw
import Derived.RegionTactic
set_option linter.unusedVariables false
set_option linter.unusedSimpArgs false
namespace Go.Proofs.YtpmiddhdgidimaaGreatDoor
open Go.RowKit Go.Proofs.YtpmiddhdgidimaaGreatDoorW.PrintWords

/-- A list of which so many ends are turned. -/
def revTo (L : List UInt8) (k : Nat) : List UInt8 := (List.range L.length).map fun p => if p < k ∨ L.length - k ≤ p then L.getD (L.length - 1 - p) 0 else L.getD p 0
theorem revTo_length (L : List UInt8) (k : Nat) : (revTo L k).length = L.length := by simp [revTo]
theorem revTo_getD (L : List UInt8) (k p : Nat) (hp : p < L.length) : (revTo L k).getD p 0 = if p < k ∨ L.length - k ≤ p then L.getD (L.length - 1 - p) 0 else L.getD p 0 := by
  unfold revTo
  rw [List.getD_eq_getElem?_getD, List.getElem?_map, List.getElem?_range hp]
  rfl
theorem ext_getD {a b : List UInt8} (hl : a.length = b.length) (h : ∀ p, p < a.length → a.getD p 0 = b.getD p 0) : a = b := by
  refine List.ext_getElem hl fun i h1 h2 => ?_
  have := h i h1
  rw [List.getD_eq_getElem?_getD, List.getD_eq_getElem?_getD, List.getElem?_eq_getElem h1, List.getElem?_eq_getElem h2] at this
  exact this
theorem revTo_zero (L : List UInt8) : revTo L 0 = L := by
  refine ext_getD (revTo_length L 0) fun p hp => ?_
  rw [revTo_length] at hp
  rw [revTo_getD L 0 p hp, if_neg (by omega)]
theorem revTo_full (L : List UInt8) (k : Nat) (hk : L.length ≤ 2 * k + 1) : revTo L k = L.reverse := by
  refine ext_getD (by rw [revTo_length, List.length_reverse]) fun p hp => ?_
  rw [revTo_length] at hp
  rw [revTo_getD L k p hp, List.getD_eq_getElem?_getD, List.getD_eq_getElem?_getD, List.getD_eq_getElem?_getD, List.getElem?_reverse hp]
  split
  · rfl
  · have : p = L.length - 1 - p := by omega
    rw [← this]
theorem getD_set_self (l : List UInt8) (i : Nat) (v : UInt8) (h : i < l.length) : (l.set i v).getD i 0 = v := by
  rw [List.getD_eq_getElem?_getD, List.getElem?_set_self h]; rfl
theorem getD_set_ne (l : List UInt8) (i j : Nat) (v : UInt8) (h : i ≠ j) : (l.set i v).getD j 0 = l.getD j 0 := by
  rw [List.getD_eq_getElem?_getD, List.getElem?_set_ne h, ← List.getD_eq_getElem?_getD]
theorem revTo_step (L : List UInt8) (k : Nat) (hk : 2 * k + 1 < L.length) : ((revTo L k).set k (L.getD (L.length - 1 - k) 0)).set (L.length - 1 - k) (L.getD k 0) = revTo L (k + 1) := by
  refine ext_getD (by rw [List.length_set, List.length_set, revTo_length, revTo_length]) fun p hp => ?_
  rw [List.length_set, List.length_set, revTo_length] at hp
  rw [revTo_getD L (k + 1) p hp]
  by_cases h1 : p = L.length - 1 - k
  · subst h1
    rw [getD_set_self _ _ _ (by rw [List.length_set, revTo_length]; omega), if_pos (by omega)]
    congr 1
    omega
  · rw [getD_set_ne _ _ _ _ (Ne.symm h1)]
    by_cases h2 : p = k
    · subst h2
      rw [getD_set_self _ _ _ (by rw [revTo_length]; omega), if_pos (by omega)]
    · rw [getD_set_ne _ _ _ _ (Ne.symm h2), revTo_getD L k p hp]
      by_cases h3 : p < k ∨ L.length - k ≤ p
      · rw [if_pos h3, if_pos (by omega)]
      · rw [if_neg h3, if_neg (by omega)]
set_option maxHeartbeats 1000000 in
set_option maxRecDepth 100000 in
theorem reverse_any (g : Nat) (L : List UInt8) (cap : Nat) (w : World) (hY : Bytes w g L) (hl : L.length ≤ 1000) (B : Nat) (hB : B ≤ g) :
    Calls Tryz.prog 89 #[.slice (some ⟨g, 0, none⟩) L.length cap] w fun e w' => e = .returned (.tuple #[]) ∧ Bytes w' g L.reverse ∧ Below B w w' := by
  have HY := Aside0.mk hY
  clear hY
  go_enter Tryz.func89, Tryz.ntmps89
  go_wp2_with fail
  go_loopw [2, 3] (fun iv jv wr => ∃ (k : Nat) (x : Int), iv = .int .i64 k ∧ jv = .int .i64 x ∧ x = (L.length : Int) - 1 - k ∧ 2 * k ≤ L.length ∧ Aside0 (Bytes wr g (revTo L k)) ∧ Aside0 (Below B w wr)) (fun iv _ _ => L.length - (intOf iv).toNat)
  case atStart => exact ⟨0, _, rfl, rfl, by omega, by omega, ⟨by rw [revTo_zero]; exact HY.out⟩, ⟨Below.refl _ _⟩⟩
  case round =>
    obtain ⟨k, x, rfl, rfl, hx, hk, HR, HB⟩ := hrel
    have hrl := revTo_length L k
    by_cases hlt : (k : Int) < x
    · obtain ⟨m, rfl⟩ : ∃ m : Nat, x = m := ⟨x.toNat, by omega⟩
      have u0 := HR.out.cell k (by rw [hrl]; omega)
      have u1 := HR.out.cell m (by rw [hrl]; omega)
      have f0 := HR.out.free k (by rw [hrl]; omega)
      have f1 := HR.out.free m (by rw [hrl]; omega)
      have hkm : ¬ k = m := by omega
      have hmk : ¬ m = k := by omega
      have b0 : k < L.length := by omega
      have b1 : m < L.length := by omega
      have hX := Aside0.mk hx
      clear hx hrl
      go_wp2_with fail
      go_region
      go_wp2_with fail
      go_roundw
      case measure => simp [intOf]; omega
      case rel =>
        have hx := hX.out
        have em : m = L.length - 1 - k := by omega
        have h1 := (HR.out.set k (by rw [revTo_length]; omega) (L.getD (L.length - 1 - k) 0)).set m (by rw [List.length_set, revTo_length]; omega) (L.getD k 0)
        rw [em, revTo_step L k (by omega)] at h1
        have e1 : (revTo L k)[m]?.getD 0 = L.getD (L.length - 1 - k) 0 := by
          rw [← List.getD_eq_getElem?_getD, revTo_getD L k m (by omega), if_neg (by omega), em]
        have e2 : (revTo L k)[k]?.getD 0 = L.getD k 0 := by
          rw [← List.getD_eq_getElem?_getD, revTo_getD L k k (by omega), if_neg (by omega)]
        refine ⟨k + 1, _, by go_num, rfl, by omega, by omega, ⟨?_⟩, ⟨below_drewN ((HB.out.setCell hB _).setCell hB _) 1⟩⟩
        rw [e1, e2, em]
        exact h1.below (B := g + 1) (below_drew (Below.refl _ _)) (by omega)
    · go_wp2_with fail
      go_end0
      have := HR.out
      rw [revTo_full L k (by omega)] at this
      exact ⟨rfl, this, HB.out⟩
end Go.Proofs.YtpmiddhdgidimaaGreatDoor
