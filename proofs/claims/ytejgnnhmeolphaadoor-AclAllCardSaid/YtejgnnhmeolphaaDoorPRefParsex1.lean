-- Laid by this session's prt.py (the kit's print.py, some callees proved by hand).
import Derived.Test.YtejgnnhmeolphaaDoorPRefParsex0
namespace Go.Proofs.YtejgnnhmeolphaaDoor.PRefParse
open Go.RowKit Go.Proofs.YtejgnnhmeolphaaDoorW.PrintWords Go.Proofs.YtejgnnhmeolphaaDoorW.PrintLast Go.Proofs.YtejgnnhmeolphaaDoorW.PrintMore
open List (setIfInBounds_toArray set_cons_zero set_cons_succ)

attribute [local go_sem] max2_int min2_int max_two min_two max_three min_three max_four min_four   -- for this text's walks alone
set_option linter.unusedVariables false
set_option linter.unusedSimpArgs false

/-! ### rParse: function 15 -/
mutual
def rParse.l0 : Nat → ByteArray → List ByteArray → List (S27) → Int → Option ((List (S27)) × Bool)
 | 0, _, _, _, _ => none
 | k + 1, x0, x3, x4, x5 => if x5 < (x3.length : Int) then (if 0 ≤ x5 then ((PAclR.gripsackref9_cut.f k (rdOf ByteArray.empty x3 x5) 58).bind fun t106 => (if (t106.length : Int) = 3 then (if 2 < (t106.length : Int) then (rParse.j1 k x0 x3 x4 x5 t106 (((rdOf ByteArray.empty t106 2).size : Int) != 3)) else (none)) else (rParse.j1 k x0 x3 x4 x5 t106 true))) else (none)) else ((PRefMay.rMay.f k x4).bind fun t126 => (if t126 = true then ((PRefText.gripsackref9_TextAcl.f k x4).bind fun t127 => (if t127.toList = x0.toList then (some (x4, true)) else (some (([] : List (S27)), false)))) else (some (([] : List (S27)), false))))
def rParse.j1 : Nat → ByteArray → List ByteArray → List (S27) → Int → List ByteArray → Bool → Option ((List (S27)) × Bool)
 | 0, _, _, _, _, _, _ => none
 | k + 1, x0, x3, x4, x5, x6, x35 => if x35 = true then (some (([] : List (S27)), false)) else (if 0 < (x6.length : Int) then (if (rdOf ByteArray.empty x6 0).toList = ([117] : List UInt8) then (if 1 < (x6.length : Int) then (rParse.j2 k x0 x3 x4 x5 x6 ((rdOf ByteArray.empty x6 1).toList == ([] : List UInt8)) 0 0 0) else (none)) else (rParse.j2 k x0 x3 x4 x5 x6 false 0 0 0)) else (none))
def rParse.j4 : Nat → ByteArray → List ByteArray → List (S27) → Int → List ByteArray → Int → Int → Int → Option ((List (S27)) × Bool)
 | 0, _, _, _, _, _, _, _, _ => none
 | k + 1, x0, x3, x4, x5, x6, x111000, x111001, x111002 => (PRefMay.gripsackref9_named.f x111000 x111001 x111002).bind fun t119 => (if t119 = true then (if 1 < (x6.length : Int) then ((PAclR.gripsackref9_Decimal.f k (rdOf ByteArray.empty x6 1)).bind fun t121 => (rParse.j5 k x0 x3 x4 x5 x6 x111000 t121 x111002)) else (none)) else (rParse.j5 k x0 x3 x4 x5 x6 x111000 x111001 x111002))
def rParse.j5 : Nat → ByteArray → List ByteArray → List (S27) → Int → List ByteArray → Int → Int → Int → Option ((List (S27)) × Bool)
 | 0, _, _, _, _, _, _, _, _ => none
 | k + 1, x0, x3, x4, x5, x6, x111000, x111001, x111002 => rParse.l1 k x0 x3 x4 x5 x6 0 x111000 x111001 x111002
def rParse.l1 : Nat → ByteArray → List ByteArray → List (S27) → Int → List ByteArray → Int → Int → Int → Int → Option ((List (S27)) × Bool)
 | 0, _, _, _, _, _, _, _, _, _ => none
 | k + 1, x0, x3, x4, x5, x6, x8, x111000, x111001, x111002 => if x8 < 3 then (if 2 < (x6.length : Int) then (if 0 ≤ x8 then (if x8 < ((rdOf ByteArray.empty x6 2).size : Int) then (if (bt (rdOf ByteArray.empty x6 2) x8) = 45 then (rParse.l1 k x0 x3 x4 x5 x6 (wrap64 (x8 + 1)) x111000 x111001 x111002) else (rParse.l1 k x0 x3 x4 x5 x6 (wrap64 (x8 + 1)) x111000 x111001 (Go.bits .or .i64 x111002 (shr .i64 4 x8)))) else (none)) else (none)) else (none)) else (if x4.length < 5864062014805 then (rParse.l0 k x0 x3 (x4 ++ [(⟨x111000, x111001, x111002⟩ : S27)]) (wrap64 (x5 + 1))) else (none))
def rParse.j2 : Nat → ByteArray → List ByteArray → List (S27) → Int → List ByteArray → Bool → Int → Int → Int → Option ((List (S27)) × Bool)
 | 0, _, _, _, _, _, _, _, _, _ => none
 | k + 1, x0, x3, x4, x5, x6, x38, x111000, x111001, x111002 => if x38 = true then (rParse.j4 k x0 x3 x4 x5 x6 1 x111001 x111002) else (if 0 < (x6.length : Int) then (if (rdOf ByteArray.empty x6 0).toList = ([117] : List UInt8) then (rParse.j4 k x0 x3 x4 x5 x6 2 x111001 x111002) else (if (rdOf ByteArray.empty x6 0).toList = ([103] : List UInt8) then (if 1 < (x6.length : Int) then (rParse.j3 k x0 x3 x4 x5 x6 ((rdOf ByteArray.empty x6 1).toList == ([] : List UInt8)) x111000 x111001 x111002) else (none)) else (rParse.j3 k x0 x3 x4 x5 x6 false x111000 x111001 x111002))) else (none))
def rParse.j3 : Nat → ByteArray → List ByteArray → List (S27) → Int → List ByteArray → Bool → Int → Int → Int → Option ((List (S27)) × Bool)
 | 0, _, _, _, _, _, _, _, _, _ => none
 | k + 1, x0, x3, x4, x5, x6, x56, x111000, x111001, x111002 => if x56 = true then (rParse.j4 k x0 x3 x4 x5 x6 3 x111001 x111002) else (if 0 < (x6.length : Int) then (if (rdOf ByteArray.empty x6 0).toList = ([103] : List UInt8) then (rParse.j4 k x0 x3 x4 x5 x6 4 x111001 x111002) else (if (rdOf ByteArray.empty x6 0).toList = ([109] : List UInt8) then (rParse.j4 k x0 x3 x4 x5 x6 5 x111001 x111002) else (if (rdOf ByteArray.empty x6 0).toList = ([111] : List UInt8) then (rParse.j4 k x0 x3 x4 x5 x6 6 x111001 x111002) else (rParse.j4 k x0 x3 x4 x5 x6 x111000 x111001 x111002)))) else (none))
end
def rParse.f (k : Nat) (a0 : ByteArray) : Option ((List (S27)) × Bool) := if (a0.size : Int) > 1000 then (some (([] : List (S27)), false)) else ((PAclR.gripsackref9_cut.f k a0 44).bind fun t102 => (rParse.l0 k a0 t102 ([] : List (S27)) 0))
theorem rParse.mono_l : ∀ k, (∀ y0 y1 y2 y3, LeO (rParse.l0 k y0 y1 y2 y3) (rParse.l0 (k + 1) y0 y1 y2 y3)) ∧ (∀ y0 y1 y2 y3 y4 y5, LeO (rParse.j1 k y0 y1 y2 y3 y4 y5) (rParse.j1 (k + 1) y0 y1 y2 y3 y4 y5)) ∧ (∀ y0 y1 y2 y3 y4 y5 y6 y7, LeO (rParse.j4 k y0 y1 y2 y3 y4 y5 y6 y7) (rParse.j4 (k + 1) y0 y1 y2 y3 y4 y5 y6 y7)) ∧ (∀ y0 y1 y2 y3 y4 y5 y6 y7, LeO (rParse.j5 k y0 y1 y2 y3 y4 y5 y6 y7) (rParse.j5 (k + 1) y0 y1 y2 y3 y4 y5 y6 y7)) ∧ (∀ y0 y1 y2 y3 y4 y5 y6 y7 y8, LeO (rParse.l1 k y0 y1 y2 y3 y4 y5 y6 y7 y8) (rParse.l1 (k + 1) y0 y1 y2 y3 y4 y5 y6 y7 y8)) ∧ (∀ y0 y1 y2 y3 y4 y5 y6 y7 y8, LeO (rParse.j2 k y0 y1 y2 y3 y4 y5 y6 y7 y8) (rParse.j2 (k + 1) y0 y1 y2 y3 y4 y5 y6 y7 y8)) ∧ (∀ y0 y1 y2 y3 y4 y5 y6 y7 y8, LeO (rParse.j3 k y0 y1 y2 y3 y4 y5 y6 y7 y8) (rParse.j3 (k + 1) y0 y1 y2 y3 y4 y5 y6 y7 y8))
 | 0 => ⟨fun _ _ _ _ r h => by simp [rParse.l0] at h, fun _ _ _ _ _ _ r h => by simp [rParse.j1] at h, fun _ _ _ _ _ _ _ _ r h => by simp [rParse.j4] at h, fun _ _ _ _ _ _ _ _ r h => by simp [rParse.j5] at h, fun _ _ _ _ _ _ _ _ _ r h => by simp [rParse.l1] at h, fun _ _ _ _ _ _ _ _ _ r h => by simp [rParse.j2] at h, fun _ _ _ _ _ _ _ _ _ r h => by simp [rParse.j3] at h⟩
 | k + 1 => by
  obtain ⟨ih0, ih1, ih2, ih3, ih4, ih5, ih6⟩ := rParse.mono_l k
  refine ⟨?_, ?_, ?_, ?_, ?_, ?_, ?_⟩
  ·intro y0 y1 y2 y3
   unfold rParse.l0
   repeat' first
   | (with_reducible exact ih0 _ _ _ _)
   | (with_reducible exact ih1 _ _ _ _ _ _)
   | (with_reducible exact ih2 _ _ _ _ _ _ _ _)
   | (with_reducible exact ih3 _ _ _ _ _ _ _ _)
   | (with_reducible exact ih4 _ _ _ _ _ _ _ _ _)
   | (with_reducible exact ih5 _ _ _ _ _ _ _ _ _)
   | (with_reducible exact ih6 _ _ _ _ _ _ _ _ _)
   | (with_reducible exact PAclR.gripsackref9_Decimal.mono _ _)
   | (with_reducible exact PAclR.gripsackref9_cut.mono _ _ _)
   | (with_reducible exact PRefMay.rMay.mono _ _)
   | (with_reducible exact PRefText.gripsackref9_TextAcl.mono _ _)
   | (with_reducible exact LeO.refl _)
   | (with_reducible exact LeO.none _)
   | (with_reducible refine LeO.ite ?_ ?_)
   | (with_reducible refine LeO.bind ?_ (fun _ => ?_))
   | exact ih0 _ _ _ _
   | exact ih1 _ _ _ _ _ _
   | exact ih2 _ _ _ _ _ _ _ _
   | exact ih3 _ _ _ _ _ _ _ _
   | exact ih4 _ _ _ _ _ _ _ _ _
   | exact ih5 _ _ _ _ _ _ _ _ _
   | exact ih6 _ _ _ _ _ _ _ _ _
   | exact PAclR.gripsackref9_Decimal.mono _ _
   | exact PAclR.gripsackref9_cut.mono _ _ _
   | exact PRefMay.rMay.mono _ _
   | exact PRefText.gripsackref9_TextAcl.mono _ _
   | exact LeO.none _
   | refine LeO.ite ?_ ?_
   | refine LeO.bind ?_ (fun _ => ?_)
  ·intro y0 y1 y2 y3 y4 y5
   unfold rParse.j1
   repeat' first
   | (with_reducible exact ih0 _ _ _ _)
   | (with_reducible exact ih1 _ _ _ _ _ _)
   | (with_reducible exact ih2 _ _ _ _ _ _ _ _)
   | (with_reducible exact ih3 _ _ _ _ _ _ _ _)
   | (with_reducible exact ih4 _ _ _ _ _ _ _ _ _)
   | (with_reducible exact ih5 _ _ _ _ _ _ _ _ _)
   | (with_reducible exact ih6 _ _ _ _ _ _ _ _ _)
   | (with_reducible exact PAclR.gripsackref9_Decimal.mono _ _)
   | (with_reducible exact PAclR.gripsackref9_cut.mono _ _ _)
   | (with_reducible exact PRefMay.rMay.mono _ _)
   | (with_reducible exact PRefText.gripsackref9_TextAcl.mono _ _)
   | (with_reducible exact LeO.refl _)
   | (with_reducible exact LeO.none _)
   | (with_reducible refine LeO.ite ?_ ?_)
   | (with_reducible refine LeO.bind ?_ (fun _ => ?_))
   | exact ih0 _ _ _ _
   | exact ih1 _ _ _ _ _ _
   | exact ih2 _ _ _ _ _ _ _ _
   | exact ih3 _ _ _ _ _ _ _ _
   | exact ih4 _ _ _ _ _ _ _ _ _
   | exact ih5 _ _ _ _ _ _ _ _ _
   | exact ih6 _ _ _ _ _ _ _ _ _
   | exact PAclR.gripsackref9_Decimal.mono _ _
   | exact PAclR.gripsackref9_cut.mono _ _ _
   | exact PRefMay.rMay.mono _ _
   | exact PRefText.gripsackref9_TextAcl.mono _ _
   | exact LeO.none _
   | refine LeO.ite ?_ ?_
   | refine LeO.bind ?_ (fun _ => ?_)
  ·intro y0 y1 y2 y3 y4 y5 y6 y7
   unfold rParse.j4
   repeat' first
   | (with_reducible exact ih0 _ _ _ _)
   | (with_reducible exact ih1 _ _ _ _ _ _)
   | (with_reducible exact ih2 _ _ _ _ _ _ _ _)
   | (with_reducible exact ih3 _ _ _ _ _ _ _ _)
   | (with_reducible exact ih4 _ _ _ _ _ _ _ _ _)
   | (with_reducible exact ih5 _ _ _ _ _ _ _ _ _)
   | (with_reducible exact ih6 _ _ _ _ _ _ _ _ _)
   | (with_reducible exact PAclR.gripsackref9_Decimal.mono _ _)
   | (with_reducible exact PAclR.gripsackref9_cut.mono _ _ _)
   | (with_reducible exact PRefMay.rMay.mono _ _)
   | (with_reducible exact PRefText.gripsackref9_TextAcl.mono _ _)
   | (with_reducible exact LeO.refl _)
   | (with_reducible exact LeO.none _)
   | (with_reducible refine LeO.ite ?_ ?_)
   | (with_reducible refine LeO.bind ?_ (fun _ => ?_))
   | exact ih0 _ _ _ _
   | exact ih1 _ _ _ _ _ _
   | exact ih2 _ _ _ _ _ _ _ _
   | exact ih3 _ _ _ _ _ _ _ _
   | exact ih4 _ _ _ _ _ _ _ _ _
   | exact ih5 _ _ _ _ _ _ _ _ _
   | exact ih6 _ _ _ _ _ _ _ _ _
   | exact PAclR.gripsackref9_Decimal.mono _ _
   | exact PAclR.gripsackref9_cut.mono _ _ _
   | exact PRefMay.rMay.mono _ _
   | exact PRefText.gripsackref9_TextAcl.mono _ _
   | exact LeO.none _
   | refine LeO.ite ?_ ?_
   | refine LeO.bind ?_ (fun _ => ?_)
  ·intro y0 y1 y2 y3 y4 y5 y6 y7
   unfold rParse.j5
   repeat' first
   | (with_reducible exact ih0 _ _ _ _)
   | (with_reducible exact ih1 _ _ _ _ _ _)
   | (with_reducible exact ih2 _ _ _ _ _ _ _ _)
   | (with_reducible exact ih3 _ _ _ _ _ _ _ _)
   | (with_reducible exact ih4 _ _ _ _ _ _ _ _ _)
   | (with_reducible exact ih5 _ _ _ _ _ _ _ _ _)
   | (with_reducible exact ih6 _ _ _ _ _ _ _ _ _)
   | (with_reducible exact PAclR.gripsackref9_Decimal.mono _ _)
   | (with_reducible exact PAclR.gripsackref9_cut.mono _ _ _)
   | (with_reducible exact PRefMay.rMay.mono _ _)
   | (with_reducible exact PRefText.gripsackref9_TextAcl.mono _ _)
   | (with_reducible exact LeO.refl _)
   | (with_reducible exact LeO.none _)
   | (with_reducible refine LeO.ite ?_ ?_)
   | (with_reducible refine LeO.bind ?_ (fun _ => ?_))
   | exact ih0 _ _ _ _
   | exact ih1 _ _ _ _ _ _
   | exact ih2 _ _ _ _ _ _ _ _
   | exact ih3 _ _ _ _ _ _ _ _
   | exact ih4 _ _ _ _ _ _ _ _ _
   | exact ih5 _ _ _ _ _ _ _ _ _
   | exact ih6 _ _ _ _ _ _ _ _ _
   | exact PAclR.gripsackref9_Decimal.mono _ _
   | exact PAclR.gripsackref9_cut.mono _ _ _
   | exact PRefMay.rMay.mono _ _
   | exact PRefText.gripsackref9_TextAcl.mono _ _
   | exact LeO.none _
   | refine LeO.ite ?_ ?_
   | refine LeO.bind ?_ (fun _ => ?_)
  ·intro y0 y1 y2 y3 y4 y5 y6 y7 y8
   unfold rParse.l1
   repeat' first
   | (with_reducible exact ih0 _ _ _ _)
   | (with_reducible exact ih1 _ _ _ _ _ _)
   | (with_reducible exact ih2 _ _ _ _ _ _ _ _)
   | (with_reducible exact ih3 _ _ _ _ _ _ _ _)
   | (with_reducible exact ih4 _ _ _ _ _ _ _ _ _)
   | (with_reducible exact ih5 _ _ _ _ _ _ _ _ _)
   | (with_reducible exact ih6 _ _ _ _ _ _ _ _ _)
   | (with_reducible exact PAclR.gripsackref9_Decimal.mono _ _)
   | (with_reducible exact PAclR.gripsackref9_cut.mono _ _ _)
   | (with_reducible exact PRefMay.rMay.mono _ _)
   | (with_reducible exact PRefText.gripsackref9_TextAcl.mono _ _)
   | (with_reducible exact LeO.refl _)
   | (with_reducible exact LeO.none _)
   | (with_reducible refine LeO.ite ?_ ?_)
   | (with_reducible refine LeO.bind ?_ (fun _ => ?_))
   | exact ih0 _ _ _ _
   | exact ih1 _ _ _ _ _ _
   | exact ih2 _ _ _ _ _ _ _ _
   | exact ih3 _ _ _ _ _ _ _ _
   | exact ih4 _ _ _ _ _ _ _ _ _
   | exact ih5 _ _ _ _ _ _ _ _ _
   | exact ih6 _ _ _ _ _ _ _ _ _
   | exact PAclR.gripsackref9_Decimal.mono _ _
   | exact PAclR.gripsackref9_cut.mono _ _ _
   | exact PRefMay.rMay.mono _ _
   | exact PRefText.gripsackref9_TextAcl.mono _ _
   | exact LeO.none _
   | refine LeO.ite ?_ ?_
   | refine LeO.bind ?_ (fun _ => ?_)
  ·intro y0 y1 y2 y3 y4 y5 y6 y7 y8
   unfold rParse.j2
   repeat' first
   | (with_reducible exact ih0 _ _ _ _)
   | (with_reducible exact ih1 _ _ _ _ _ _)
   | (with_reducible exact ih2 _ _ _ _ _ _ _ _)
   | (with_reducible exact ih3 _ _ _ _ _ _ _ _)
   | (with_reducible exact ih4 _ _ _ _ _ _ _ _ _)
   | (with_reducible exact ih5 _ _ _ _ _ _ _ _ _)
   | (with_reducible exact ih6 _ _ _ _ _ _ _ _ _)
   | (with_reducible exact PAclR.gripsackref9_Decimal.mono _ _)
   | (with_reducible exact PAclR.gripsackref9_cut.mono _ _ _)
   | (with_reducible exact PRefMay.rMay.mono _ _)
   | (with_reducible exact PRefText.gripsackref9_TextAcl.mono _ _)
   | (with_reducible exact LeO.refl _)
   | (with_reducible exact LeO.none _)
   | (with_reducible refine LeO.ite ?_ ?_)
   | (with_reducible refine LeO.bind ?_ (fun _ => ?_))
   | exact ih0 _ _ _ _
   | exact ih1 _ _ _ _ _ _
   | exact ih2 _ _ _ _ _ _ _ _
   | exact ih3 _ _ _ _ _ _ _ _
   | exact ih4 _ _ _ _ _ _ _ _ _
   | exact ih5 _ _ _ _ _ _ _ _ _
   | exact ih6 _ _ _ _ _ _ _ _ _
   | exact PAclR.gripsackref9_Decimal.mono _ _
   | exact PAclR.gripsackref9_cut.mono _ _ _
   | exact PRefMay.rMay.mono _ _
   | exact PRefText.gripsackref9_TextAcl.mono _ _
   | exact LeO.none _
   | refine LeO.ite ?_ ?_
   | refine LeO.bind ?_ (fun _ => ?_)
  ·intro y0 y1 y2 y3 y4 y5 y6 y7 y8
   unfold rParse.j3
   repeat' first
   | (with_reducible exact ih0 _ _ _ _)
   | (with_reducible exact ih1 _ _ _ _ _ _)
   | (with_reducible exact ih2 _ _ _ _ _ _ _ _)
   | (with_reducible exact ih3 _ _ _ _ _ _ _ _)
   | (with_reducible exact ih4 _ _ _ _ _ _ _ _ _)
   | (with_reducible exact ih5 _ _ _ _ _ _ _ _ _)
   | (with_reducible exact ih6 _ _ _ _ _ _ _ _ _)
   | (with_reducible exact PAclR.gripsackref9_Decimal.mono _ _)
   | (with_reducible exact PAclR.gripsackref9_cut.mono _ _ _)
   | (with_reducible exact PRefMay.rMay.mono _ _)
   | (with_reducible exact PRefText.gripsackref9_TextAcl.mono _ _)
   | (with_reducible exact LeO.refl _)
   | (with_reducible exact LeO.none _)
   | (with_reducible refine LeO.ite ?_ ?_)
   | (with_reducible refine LeO.bind ?_ (fun _ => ?_))
   | exact ih0 _ _ _ _
   | exact ih1 _ _ _ _ _ _
   | exact ih2 _ _ _ _ _ _ _ _
   | exact ih3 _ _ _ _ _ _ _ _
   | exact ih4 _ _ _ _ _ _ _ _ _
   | exact ih5 _ _ _ _ _ _ _ _ _
   | exact ih6 _ _ _ _ _ _ _ _ _
   | exact PAclR.gripsackref9_Decimal.mono _ _
   | exact PAclR.gripsackref9_cut.mono _ _ _
   | exact PRefMay.rMay.mono _ _
   | exact PRefText.gripsackref9_TextAcl.mono _ _
   | exact LeO.none _
   | refine LeO.ite ?_ ?_
   | refine LeO.bind ?_ (fun _ => ?_)
theorem rParse.mono : ∀ a0 k, LeO (rParse.f k a0) (rParse.f (k + 1) a0) := by
 intro a0 k
 obtain ⟨ih0, ih1, ih2, ih3, ih4, ih5, ih6⟩ := rParse.mono_l k
 unfold rParse.f
 repeat' first
   | (with_reducible exact ih0 _ _ _ _)
   | (with_reducible exact ih1 _ _ _ _ _ _)
   | (with_reducible exact ih2 _ _ _ _ _ _ _ _)
   | (with_reducible exact ih3 _ _ _ _ _ _ _ _)
   | (with_reducible exact ih4 _ _ _ _ _ _ _ _ _)
   | (with_reducible exact ih5 _ _ _ _ _ _ _ _ _)
   | (with_reducible exact ih6 _ _ _ _ _ _ _ _ _)
   | (with_reducible exact PAclR.gripsackref9_Decimal.mono _ _)
   | (with_reducible exact PAclR.gripsackref9_cut.mono _ _ _)
   | (with_reducible exact PRefMay.rMay.mono _ _)
   | (with_reducible exact PRefText.gripsackref9_TextAcl.mono _ _)
   | (with_reducible exact LeO.refl _)
   | (with_reducible exact LeO.none _)
   | (with_reducible refine LeO.ite ?_ ?_)
   | (with_reducible refine LeO.bind ?_ (fun _ => ?_))
   | exact ih0 _ _ _ _
   | exact ih1 _ _ _ _ _ _
   | exact ih2 _ _ _ _ _ _ _ _
   | exact ih3 _ _ _ _ _ _ _ _
   | exact ih4 _ _ _ _ _ _ _ _ _
   | exact ih5 _ _ _ _ _ _ _ _ _
   | exact ih6 _ _ _ _ _ _ _ _ _
   | exact PAclR.gripsackref9_Decimal.mono _ _
   | exact PAclR.gripsackref9_cut.mono _ _ _
   | exact PRefMay.rMay.mono _ _
   | exact PRefText.gripsackref9_TextAcl.mono _ _
   | exact LeO.none _
   | refine LeO.ite ?_ ?_
   | refine LeO.bind ?_ (fun _ => ?_)
set_option maxHeartbeats 8000000 in
set_option maxRecDepth 100000 in
theorem rParse.calls (k : Nat) (a0 : ByteArray) (r1 : List (S27)) (r2 : Bool) (w : World) (h : rParse.f k a0 = some (r1, r2)) :
  Calls Tryd.prog 15 #[.string a0] w fun e w' => ∃ v0_ : Value, e = .returned (.agg #[v0_, .bool r2]) ∧ Kd.R k27 27 w' w.heap.size (fun _ => True) v0_ r1 ∧ Below w.heap.size w w' := by
 have hu42 := Tryd.underlying42
 have hu27 := Tryd.underlying27
 have HB := Aside0.mk (Below.refl w.heap.size w)
 have H : (if (a0.size : Int) > 1000 then (some (([] : List (S27)), false)) else ((PAclR.gripsackref9_cut.f k a0 44).bind fun t102 => (rParse.l0 k a0 t102 ([] : List (S27)) 0))) = some (r1, r2) := h
 clear h
 by_cases c2 : (a0.size : Int) > 1000
 ·rw [if_pos c2] at H
  have c2b0 : decide (1000 < (a0.size : Int)) = true := decide_eq_true c2
  have c2b1 : decide (1000 < a0.size) = true := decide_eq_true (by omega)
  clear c2
  simp only [Option.some.injEq, Prod.mk.injEq] at H
  obtain ⟨rfl, rfl⟩ := H
  go_enter Tryd.func15, Tryd.ntmps15
  go_wp2_with (first | ((with_reducible refine gate_dst (N := 2) rfl ?_); (try (refine gate_guard (by rfl) ?_; dsimp only)); refine box_event ?hg (N := 2) ?hd (cs := #[.slice none 0 0, .bool false]) (t := 42) ?hr ?_; (case hd => rfl); (case hg => rfl); (case hr => first | (go_simp; done) | (go_simp; rfl)); intro gb101 hg w3 hbox hb; have n0_ := Aside0.mk (below_step (by repeat (first | (with_reducible first | exact HB.out | apply below_alloc | apply pw_below_drewN | apply below_drew1) | exact HB.out)) hb); have n1_ := Aside0.mk (hbox); have n2_ := Aside0.mk ((by rw [hg]; exact (below_size (by repeat (first | (with_reducible first | exact HB.out | apply below_alloc | apply pw_below_drewN | apply below_drew1) | exact HB.out))) : w.heap.size ≤ gb101)); have n3_ := Aside0.mk ((by rw [hg]; exact (below_size (by repeat (first | (with_reducible first | exact HB.out | apply below_alloc | apply pw_below_drewN | apply below_drew1) | exact HB.out))) : w.heap.size ≤ gb101)); clear HB; have HB := n0_; have BK101 := n1_; have GW101 := n2_; have GE101 := n3_; clear n0_ n1_ n2_ n3_; clear hb hbox hg; have hcz4_0 : w3.cell? ⟨gb101, 0, none⟩ = some (.slice none 0 0) := (blk_cell BK101.out 0).trans rfl; have hcz4_1 : w3.cell? ⟨gb101, 1, none⟩ = some (.bool false) := (blk_cell BK101.out 1).trans rfl; have hfz4_0 := blk_frozen BK101.out 0; have hfz4_1 := blk_frozen BK101.out 1))
  refine bodyPost_ret (results_cell_row rfl _ _ gb101 42 #[.slice none 0 0, .bool false] (0, 0) _ rfl (by (with_reducible repeat (first | refine blk_drewN ?_ _ | refine blk_drew ?_ | refine blk_alloc ?_ _)); refine blk_put (cs := #[.slice none 0 0, .bool false]) ?_ 1 _ rfl; (with_reducible repeat (first | refine blk_drewN ?_ _ | refine blk_drew ?_ | refine blk_alloc ?_ _)); refine blk_put (cs := #[.slice none 0 0, .bool false]) ?_ 0 _ rfl; (with_reducible repeat (first | refine blk_drewN ?_ _ | refine blk_drew ?_ | refine blk_alloc ?_ _)); exact BK101.out) Tryd.underlying42 rfl (by kernel_rfl)) rfl ?_
  exact ⟨_, by first | rfl | (simp [errW_none, errW_some] <;> rfl) | (simp [*, errW_none, errW_some] <;> rfl), by first | exact Kd.R_nil _ _ _ _ _ | exact Kd.N_nil _ _ _ _ _ | exact Kd.V_nil _ _ _ _ _ | exact Kd.Q_nil _ _ _ _ _ | exact Kd.S_nil _ _ _ _ _, by repeat (first | (with_reducible first | exact HB.out | apply below_alloc | apply pw_below_drewN | apply below_drew1 | refine below_set ?_ GE101.out) | exact HB.out)⟩
 ·rw [if_neg c2] at H
  have c2b0 : decide (1000 < (a0.size : Int)) = false := decide_eq_false c2
  have c2b1 : decide (1000 < a0.size) = false := decide_eq_false (by omega)
  clear c2
  replace H := Option.bind_eq_some_iff.mp H
  obtain ⟨t102, A50, H⟩ := H
  replace H : (rParse.l0 k a0 t102 ([] : List (S27)) 0) = some (r1, r2) := H
  have A5 := Aside0.mk A50
  clear A50
  have H' := Aside0.mk H
  clear H
  go_enter Tryd.func15, Tryd.ntmps15
  go_wp2_with (first | ((with_reducible refine gate_dst (N := 2) rfl ?_); (try (refine gate_guard (by rfl) ?_; dsimp only)); refine box_event ?hg (N := 2) ?hd (cs := #[.slice none 0 0, .bool false]) (t := 42) ?hr ?_; (case hd => rfl); (case hg => rfl); (case hr => first | (go_simp; done) | (go_simp; rfl)); intro gb101 hg w6 hbox hb; have n0_ := Aside0.mk (below_step (by repeat (first | (with_reducible first | exact HB.out | apply below_alloc | apply pw_below_drewN | apply below_drew1) | exact HB.out)) hb); have n1_ := Aside0.mk (hbox); have n2_ := Aside0.mk ((by rw [hg]; exact (below_size (by repeat (first | (with_reducible first | exact HB.out | apply below_alloc | apply pw_below_drewN | apply below_drew1) | exact HB.out))) : w.heap.size ≤ gb101)); have n3_ := Aside0.mk ((by rw [hg]; exact (below_size (by repeat (first | (with_reducible first | exact HB.out | apply below_alloc | apply pw_below_drewN | apply below_drew1) | exact HB.out))) : w.heap.size ≤ gb101)); clear HB; have HB := n0_; have BK101 := n1_; have GW101 := n2_; have GE101 := n3_; clear n0_ n1_ n2_ n3_; clear hb hbox hg) | ((with_reducible refine gate_callee (f := 32) rfl ?_); refine goesL_ (some 14) rfl rfl Tryd.func32 (by kernel_rfl) rfl #[.string a0, .int .u8 44] rfl (by (try simp only [List.map_toArray, List.map_cons, List.map_nil]); first | done | rfl | (simp only [List.length_drop, List.length_take]; rfl)) ?_; (with_reducible refine (PAclR.gripsackref9_cut.calls k a0 44 t102 _ A5.out).mono ?_); rintro e w7 ⟨v103, rfl, ho0, hb⟩; refine ⟨_, rfl, ?_⟩; have n0_ := Aside0.mk (Kd.R_lower ho0 (below_size (by repeat (first | (with_reducible first | exact HB.out | apply below_alloc | apply pw_below_drewN | apply below_drew1 | refine below_set ?_ GE101.out) | exact HB.out)))); have n1_ := Aside0.mk (blk_below (g := gb101) (o := .cells #[.slice none 0 0, .bool false] 42 (0, 0)) (by (with_reducible repeat (first | refine blk_drewN ?_ _ | refine blk_drew ?_ | refine blk_alloc ?_ _)); exact BK101.out) hb); have n2_ := Aside0.mk (below_step (by repeat (first | (with_reducible first | exact HB.out | apply below_alloc | apply pw_below_drewN | apply below_drew1 | refine below_set ?_ GE101.out) | exact HB.out)) hb); clear BK101; clear HB; have HO104 := n0_; have BK101 := n1_; have HB := n2_; clear n0_ n1_ n2_; (try clear hb); (try clear hb2); (try clear hk); (try clear hi); (try clear ho0)))
  go_loopg [4, 5] k (fun kq v4 v5 w' => ∃ (x4_1 : List (S27)) (x5_1 : Int) (x102001_1 : Bool), v5 = .int .i64 x5_1 ∧ Aside0 (rParse.l0 kq a0 t102 x4_1 x5_1 = some (r1, r2)) ∧ Aside0 (kq ≤ k) ∧ Aside0 (Kd.R Kd.string 9 w' w.heap.size (fun _ => True) v103 t102) ∧ Aside0 (Kd.R k27 27 w' w.heap.size (fun _ => True) v4 x4_1) ∧ Aside0 (w'.heap[gb101]? = some (.cells #[(.slice none 0 0), .bool x102001_1] 42 (0, 0))) ∧ Aside0 (Below w.heap.size w w'))
  case atStart => exact ⟨(([] : List (S27))), (0), (false), (by first | rfl | (simp; done) | (simp [*]; done)), H', ⟨Nat.le_refl _⟩, ⟨by (with_reducible repeat (first | apply Kd.R_alloc | apply Kd.R_drewN | apply Kd.R_drew)); exact HO104.out⟩, ⟨by first | exact Kd.R_nil _ _ _ _ _ | exact Kd.N_nil _ _ _ _ _ | exact Kd.V_nil _ _ _ _ _ | exact Kd.Q_nil _ _ _ _ _ | exact Kd.S_nil _ _ _ _ _⟩, ⟨by (with_reducible repeat (first | refine blk_drewN ?_ _ | refine blk_drew ?_ | refine blk_alloc ?_ _)); exact BK101.out⟩, ⟨by repeat (first | (with_reducible first | exact HB.out | apply below_alloc | apply pw_below_drewN | apply below_drew1 | refine below_set ?_ GE101.out) | exact HB.out)⟩⟩
  case round =>
   clear H'
   try clear c1
   try clear c2
   try clear c2b0
   try clear c2b1
   try clear p2
   try clear c3
   try clear hcz4_0
   try clear hcz4_1
   try clear hfz4_0
   try clear hfz4_1
   obtain ⟨x4_1, x5_1, x102001_1, rfl, HA, HK1, HO_3, HO_4, BK101, HB⟩ := hrel
   cases gk with
   | zero => exact absurd HA.out (by simp [rParse.l0])
   | succ k1 =>
    have H := HA.out
    clear HA
    simp only [rParse.l0] at H
    by_cases c8 : x5_1 < (t102.length : Int)
    ·rw [if_pos c8] at H
     have c8b0 : decide (x5_1 < (t102.length : Int)) = true := decide_eq_true c8
     clear c8
     by_cases c9 : 0 ≤ x5_1
     ·rw [if_pos c9] at H
      have c9b0 : decide (0 ≤ x5_1) = true := decide_eq_true c9
      clear c9
      replace H := Option.bind_eq_some_iff.mp H
      obtain ⟨t106, A100, H⟩ := H
      replace H : (if (t106.length : Int) = 3 then (if 2 < (t106.length : Int) then (rParse.j1 k1 a0 t102 x4_1 x5_1 t106 (((rdOf ByteArray.empty t106 2).size : Int) != 3)) else (none)) else (rParse.j1 k1 a0 t102 x4_1 x5_1 t106 true)) = some (r1, r2) := H
      have A10 := Aside0.mk A100
      clear A100
      have HC11 := Aside0.mk H
      clear H
      obtain ⟨Ao12, co12, eo12⟩ := Kd.R_slice HO_3.out
      subst eo12
      have p105 : 0 ≤ (x5_1 : Int) := of_decide_eq_true (by first | (with_reducible assumption) | assumption)
      have q105 : x5_1 < (t102.length : Int) := of_decide_eq_true (by first | (with_reducible assumption) | assumption)
      obtain ⟨ad105, e105, hx105_0⟩ := Kd.at_string (Kd.R_reads' HO_3.out).2.2 x5_1 p105 q105
      cases e105
      replace p105 := eq_true p105
      replace q105 := eq_true q105
      go_upto_region 9 with (first | ((with_reducible refine gate_callee (f := 32) rfl ?_); refine goesL_ (some 25) rfl rfl Tryd.func32 (by kernel_rfl) rfl #[.string (rdOf ByteArray.empty t102 x5_1), .int .u8 58] rfl (by (try simp only [List.map_toArray, List.map_cons, List.map_nil]); first | done | rfl | (simp only [List.length_drop, List.length_take]; rfl)) ?_; (with_reducible refine (PAclR.gripsackref9_cut.calls k1 (rdOf ByteArray.empty t102 x5_1) 58 t106 _ A10.out).mono ?_); rintro e w13 ⟨v107, rfl, ho0, hb⟩; refine ⟨_, rfl, ?_⟩; have n0_ := Aside0.mk (Kd.R_elder' (by (with_reducible repeat (first | apply Kd.R_alloc | apply Kd.R_drewN | apply Kd.R_drew)); exact HO_3.out) (Kd.R_base ho0) hb); have n1_ := Aside0.mk (Kd.R_below (by (with_reducible repeat (first | apply Kd.R_alloc | apply Kd.R_drewN | apply Kd.R_drew)); exact HO_4.out) hb); have n2_ := Aside0.mk (Kd.R_lower (Kd.R_new' ho0 (Kd.R_lt (by (with_reducible repeat (first | apply Kd.R_alloc | apply Kd.R_drewN | apply Kd.R_drew)); exact HO_3.out))) (below_size (by repeat (first | (with_reducible first | exact HB.out | apply below_alloc | apply pw_below_drewN | apply below_drew1 | refine below_set ?_ GE101.out) | exact HB.out)))); have n3_ := Aside0.mk (blk_below (g := gb101) (o := .cells #[.slice none 0 0, .bool x102001_1] 42 (0, 0)) (by (with_reducible repeat (first | refine blk_drewN ?_ _ | refine blk_drew ?_ | refine blk_alloc ?_ _)); exact BK101.out) hb); have n4_ := Aside0.mk (below_step (by repeat (first | (with_reducible first | exact HB.out | apply below_alloc | apply pw_below_drewN | apply below_drew1 | refine below_set ?_ GE101.out) | exact HB.out)) hb); clear HO_3; clear HO_4; clear BK101; clear HB; have HO_3 := n0_; have HO_4 := n1_; have HO108 := n2_; have BK101 := n3_; have HB := n4_; clear n0_ n1_ n2_ n3_ n4_; (try clear hb); (try clear hb2); (try clear hk); (try clear hi); (try clear ho0)))
      (try simp only [Act.put, setIfInBounds_toArray, set_cons_zero, set_cons_succ])
      go_cut [35] (fun v35 wc => ∃ (kq : Nat) (x35_10 : Bool), v35 = .bool x35_10 ∧ Aside0 (rParse.j1 kq a0 t102 x4_1 x5_1 t106 x35_10 = some (r1, r2)) ∧ Aside0 (kq ≤ k1) ∧ Aside0 (Kd.R Kd.string 9 wc w.heap.size (fun k_ => some k_ ≠ (v107 : Value).ownBlock) (.slice (some ad105) t102.length co12) t102) ∧ Aside0 (Kd.R k27 27 wc w.heap.size (fun _ => True) u4 x4_1) ∧ Aside0 (Kd.R Kd.string 9 wc w.heap.size (fun k_ => some k_ ≠ ((.slice (some ad105) t102.length co12) : Value).ownBlock) v107 t106) ∧ Aside0 (wc.heap[gb101]? = some (.cells #[(.slice none 0 0), .bool x102001_1] 42 (0, 0))) ∧ Aside0 (Below w.heap.size w wc))
      case first =>
       have H := HC11.out
       clear HC11
       by_cases c14 : (t106.length : Int) = 3
       ·rw [if_pos c14] at H
        have c14b0 : ((t106.length : Int) == 3) = true := beq_iff_eq.mpr c14
        have c14b1 : ((t106.length : Int) != 3) = false := bne_eq_false_iff_eq.mpr c14
        clear c14
        (first | rw [c14b0] | (simp only [i64_w, i32_w]; rw [c14b0]) | skip)
        by_cases c15 : 2 < (t106.length : Int)
        ·rw [if_pos c15] at H
         have c15b0 : decide (2 < (t106.length : Int)) = true := decide_eq_true c15
         have c15b1 : decide (2 < t106.length) = true := decide_eq_true (by omega)
         clear c15
         have H' := Aside0.mk H
         clear H
         obtain ⟨Ao16, co16, eo16⟩ := Kd.R_slice HO108.out
         subst eo16
         have p109 : 0 ≤ (2 : Int) := (by omega)
         have q109 : 2 < (t106.length : Int) := of_decide_eq_true (by first | (with_reducible assumption) | assumption)
         obtain ⟨ad109, e109, hx109_0⟩ := Kd.at_string (Kd.R_reads' HO108.out).2.2 2 p109 q109
         cases e109
         (try simp only [show (2 : Int).toNat = 2 from rfl, Nat.reduceMul, Nat.reduceEqDiff, Go.Addr.add, ↓reduceIte] at hx109_0)
         have qi109 : (2 < t106.length) = True := eq_true (by omega)
         (try rw [show ((2 : Int)).toNat = 2 from rfl] at hx109_0)
         replace p109 := eq_true p109
         replace q109 := eq_true q109
         go_wp2
         go_meet
         case rel => exact ⟨_, ((((rdOf ByteArray.empty t106 2).size : Int) != 3)), (by first | rfl | (simp; done) | (simp [*]; done)), H', ⟨by have := HK1.out; first | omega | exact Nat.le_refl _⟩, ⟨by (with_reducible repeat (first | apply Kd.R_alloc | apply Kd.R_drewN | apply Kd.R_drew)); exact Kd.R_mono HO_3.out (fun _ hk => hk.2)⟩, ⟨by (with_reducible repeat (first | apply Kd.R_alloc | apply Kd.R_drewN | apply Kd.R_drew)); exact HO_4.out⟩, ⟨by (with_reducible repeat (first | apply Kd.R_alloc | apply Kd.R_drewN | apply Kd.R_drew)); exact Kd.R_mono HO108.out (fun _ hk => hk.2)⟩, ⟨by (with_reducible repeat (first | refine blk_drewN ?_ _ | refine blk_drew ?_ | refine blk_alloc ?_ _)); exact BK101.out⟩, ⟨by repeat (first | (with_reducible first | exact HB.out | apply below_alloc | apply pw_below_drewN | apply below_drew1 | refine below_set ?_ GE101.out) | exact HB.out)⟩⟩
        ·rw [if_neg c15] at H
         exact absurd H (by simp)
       ·rw [if_neg c14] at H
        have c14b0 : ((t106.length : Int) == 3) = false := beq_eq_false_iff_ne.mpr c14
        have c14b1 : ((t106.length : Int) != 3) = true := bne_iff_ne.mpr c14
        (first | rw [c14b0] | (simp only [i64_w, i32_w]; rw [c14b0]) | skip)
        have H' := Aside0.mk H
        clear H
        obtain ⟨Ao17, co17, eo17⟩ := Kd.R_slice HO108.out
        subst eo17
        go_wp2
        go_meet
        case rel => exact ⟨_, (true), (by first | rfl | (simp; done) | (simp [*]; done)), H', ⟨by have := HK1.out; first | omega | exact Nat.le_refl _⟩, ⟨by (with_reducible repeat (first | apply Kd.R_alloc | apply Kd.R_drewN | apply Kd.R_drew)); exact Kd.R_mono HO_3.out (fun _ hk => hk.2)⟩, ⟨by (with_reducible repeat (first | apply Kd.R_alloc | apply Kd.R_drewN | apply Kd.R_drew)); exact HO_4.out⟩, ⟨by (with_reducible repeat (first | apply Kd.R_alloc | apply Kd.R_drewN | apply Kd.R_drew)); exact Kd.R_mono HO108.out (fun _ hk => hk.2)⟩, ⟨by (with_reducible repeat (first | refine blk_drewN ?_ _ | refine blk_drew ?_ | refine blk_alloc ?_ _)); exact BK101.out⟩, ⟨by repeat (first | (with_reducible first | exact HB.out | apply below_alloc | apply pw_below_drewN | apply below_drew1 | refine below_set ?_ GE101.out) | exact HB.out)⟩⟩
      case rest =>
       clear HC11
       try clear c1
       try clear p1
       try clear q1
       try clear hx1
       try clear qi1
       try clear c2
       try clear c2b0
       try clear c2b1
       try clear p2
       try clear c3
       try clear c8
       try clear c8b0
       try clear c9
       try clear c9b0
       try clear p10
       try clear q10
       try clear hx10
       try clear qi10
       try clear c14
       try clear c14b0
       try clear c14b1
       try clear c15
       try clear c15b0
       try clear c15b1
       try clear hcz4_0
       try clear hcz4_1
       try clear hfz4_0
       try clear hfz4_1
       try clear hx105_0
       try clear hx109_0
       try clear p105
       try clear p109
       try clear p2
       try clear q105
       try clear q109
       obtain ⟨kq, x35_10, rfl, HA, HJ10, HO_3, HO_4, HO_6, BK101, HB⟩ := hcut
       cases kq with
       | zero => exact absurd HA.out (by simp [rParse.j1])
       | succ kj10 =>
        have H := HA.out
        clear HA
        simp only [rParse.j1] at H
        by_cases c18 : x35_10 = true
        ·subst c18
         have H1 : (some (([] : List (S27)), false)) = some (r1, r2) := by rw [if_pos rfl] at H; exact H
         clear H
         have H := H1
         clear H1
         simp only [Option.some.injEq, Prod.mk.injEq] at H
         obtain ⟨rfl, rfl⟩ := H
         have hcz19_0 : wc.cell? ⟨gb101, 0, none⟩ = some (.slice none 0 0) := (blk_cell BK101.out 0).trans rfl
         have hcz19_1 : wc.cell? ⟨gb101, 1, none⟩ = some (.bool x102001_1) := (blk_cell BK101.out 1).trans rfl
         have hfz19_0 := blk_frozen BK101.out 0
         have hfz19_1 := blk_frozen BK101.out 1
         go_wp2
         refine bodyPost_ret (results_cell_row rfl _ _ gb101 42 #[.slice none 0 0, .bool false] (0, 0) _ rfl (by (with_reducible repeat (first | refine blk_drewN ?_ _ | refine blk_drew ?_ | refine blk_alloc ?_ _)); refine blk_put (cs := #[.slice none 0 0, .bool x102001_1]) ?_ 1 _ rfl; (with_reducible repeat (first | refine blk_drewN ?_ _ | refine blk_drew ?_ | refine blk_alloc ?_ _)); refine blk_put (cs := #[.slice none 0 0, .bool x102001_1]) ?_ 0 _ rfl; (with_reducible repeat (first | refine blk_drewN ?_ _ | refine blk_drew ?_ | refine blk_alloc ?_ _)); exact BK101.out) Tryd.underlying42 rfl (by kernel_rfl)) rfl ?_
         exact ⟨_, by first | rfl | (simp [errW_none, errW_some] <;> rfl) | (simp [*, errW_none, errW_some] <;> rfl), by first | exact Kd.R_nil _ _ _ _ _ | exact Kd.N_nil _ _ _ _ _ | exact Kd.V_nil _ _ _ _ _ | exact Kd.Q_nil _ _ _ _ _ | exact Kd.S_nil _ _ _ _ _, by repeat (first | (with_reducible first | exact HB.out | apply below_alloc | apply pw_below_drewN | apply below_drew1 | refine below_set ?_ GE101.out) | exact HB.out)⟩
        ·replace c18 := Bool.eq_false_iff.mpr c18
         subst c18
         have H1 : (if 0 < (t106.length : Int) then (if (rdOf ByteArray.empty t106 0).toList = ([117] : List UInt8) then (if 1 < (t106.length : Int) then (rParse.j2 kj10 a0 t102 x4_1 x5_1 t106 ((rdOf ByteArray.empty t106 1).toList == ([] : List UInt8)) 0 0 0) else (none)) else (rParse.j2 kj10 a0 t102 x4_1 x5_1 t106 false 0 0 0)) else (none)) = some (r1, r2) := by rw [if_neg (show ¬ (false = true) by decide)] at H; exact H
         clear H
         have H := H1
         clear H1
         have HC20 := Aside0.mk H
         clear H
         go_upto_block 2 with (first | ((with_reducible refine gate_dst (N := 7) rfl ?_); (try (refine gate_guard (by rfl) ?_; dsimp only)); refine box_event ?hg (N := 7) ?hd (cs := #[.int .i64 0, .int .i64 0, .int .i64 0]) (t := 27) ?hr ?_; (case hd => rfl); (case hg => rfl); (case hr => first | (go_simp; done) | (go_simp; rfl)); intro gb110 hg w21 hbox hb; have n0_ := Aside0.mk (Kd.R_below (by (with_reducible repeat (first | apply Kd.R_alloc | apply Kd.R_drewN | apply Kd.R_drew)); exact HO_3.out) hb); have n1_ := Aside0.mk (Kd.R_below (Kd.R_elderB (by (with_reducible repeat (first | apply Kd.R_alloc | apply Kd.R_drewN | apply Kd.R_drew)); exact HO_4.out) gb110 (Nat.le_of_eq hg.symm)) hb); have n2_ := Aside0.mk (Kd.R_below (by (with_reducible repeat (first | apply Kd.R_alloc | apply Kd.R_drewN | apply Kd.R_drew)); exact HO_6.out) hb); have n3_ := Aside0.mk (blk_below (g := gb101) (o := .cells #[.slice none 0 0, .bool x102001_1] 42 (0, 0)) (by (with_reducible repeat (first | refine blk_drewN ?_ _ | refine blk_drew ?_ | refine blk_alloc ?_ _)); exact BK101.out) hb); have n4_ := Aside0.mk (below_step (by repeat (first | (with_reducible first | exact HB.out | apply below_alloc | apply pw_below_drewN | apply below_drew1 | refine below_set ?_ GE101.out) | exact HB.out)) hb); have n5_ := Aside0.mk (hbox); have n6_ := Aside0.mk ((by rw [hg]; exact (below_size (by repeat (first | (with_reducible first | exact HB.out | apply below_alloc | apply pw_below_drewN | apply below_drew1 | refine below_set ?_ GE101.out) | exact HB.out))) : w.heap.size ≤ gb110)); have n7_ := Aside0.mk ((by rw [hg]; exact (below_size (by repeat (first | (with_reducible first | exact HB.out | apply below_alloc | apply pw_below_drewN | apply below_drew1 | refine below_set ?_ GE101.out) | exact HB.out))) : w.heap.size ≤ gb110)); have n8_ := Aside0.mk ((by rw [hg]; exact Nat.ne_of_lt (blk_lt (g := gb101) (o := .cells #[.slice none 0 0, .bool x102001_1] 42 (0, 0)) (by (with_reducible repeat (first | refine blk_drewN ?_ _ | refine blk_drew ?_ | refine blk_alloc ?_ _)); exact BK101.out)) : gb101 ≠ gb110)); have n9_ := Aside0.mk ((by rw [hg]; exact Nat.ne_of_gt (blk_lt (g := gb101) (o := .cells #[.slice none 0 0, .bool x102001_1] 42 (0, 0)) (by (with_reducible repeat (first | refine blk_drewN ?_ _ | refine blk_drew ?_ | refine blk_alloc ?_ _)); exact BK101.out)) : gb110 ≠ gb101)); clear HO_3; clear HO_4; clear HO_6; clear BK101; clear HB; have HO_3 := n0_; have HO_4 := n1_; have HO_6 := n2_; have BK101 := n3_; have HB := n4_; have BK110 := n5_; have GW110 := n6_; have GE110 := n7_; have NB101_110 := n8_; have NB110_101 := n9_; clear n0_ n1_ n2_ n3_ n4_ n5_ n6_ n7_ n8_ n9_; clear hb hbox hg; have hnb22 := NB110_101.out; have hnc22 := NB101_110.out; have hcz23_0 : w21.cell? ⟨gb110, 0, none⟩ = some (.int .i64 0) := (blk_cell BK110.out 0).trans rfl; have hcz23_1 : w21.cell? ⟨gb110, 1, none⟩ = some (.int .i64 0) := (blk_cell BK110.out 1).trans rfl; have hcz23_2 : w21.cell? ⟨gb110, 2, none⟩ = some (.int .i64 0) := (blk_cell BK110.out 2).trans rfl; have hfz23_0 := blk_frozen BK110.out 0; have hfz23_1 := blk_frozen BK110.out 1; have hfz23_2 := blk_frozen BK110.out 2))
         (try simp only [Act.put, setIfInBounds_toArray, set_cons_zero, set_cons_succ])
         go_cut [] (fun wc => ∃ (kq : Nat) (x111000_19 : Int), Aside0 (rParse.j4 kq a0 t102 x4_1 x5_1 t106 x111000_19 0 0 = some (r1, r2)) ∧ Aside0 (kq ≤ kj10) ∧ Aside0 (Kd.R Kd.string 9 wc w.heap.size (fun k_ => some k_ ≠ (v107 : Value).ownBlock) (.slice (some ad105) t102.length co12) t102) ∧ Aside0 (Kd.R k27 27 wc w.heap.size (fun k_ => k_ ≠ gb110) u4 x4_1) ∧ Aside0 (Kd.R Kd.string 9 wc w.heap.size (fun k_ => some k_ ≠ ((.slice (some ad105) t102.length co12) : Value).ownBlock) v107 t106) ∧ Aside0 (wc.heap[gb101]? = some (.cells #[(.slice none 0 0), .bool x102001_1] 42 (0, 0))) ∧ Aside0 (wc.heap[gb110]? = some (.cells #[.int .i64 x111000_19, .int .i64 0, .int .i64 0] 27 (0, 0))) ∧ Aside0 (Below w.heap.size w wc))
         case first =>
          have H := HC20.out
          clear HC20
          have HC24 := Aside0.mk H
          clear H
          go_upto_region 12 with (fail)
          go_cut [38] (fun v38 wc => ∃ (kq : Nat) (x38_23 : Bool), v38 = .bool x38_23 ∧ Aside0 (rParse.j2 kq a0 t102 x4_1 x5_1 t106 x38_23 0 0 0 = some (r1, r2)) ∧ Aside0 (kq ≤ kj10) ∧ Aside0 (Kd.R Kd.string 9 wc w.heap.size (fun k_ => some k_ ≠ (v107 : Value).ownBlock) (.slice (some ad105) t102.length co12) t102) ∧ Aside0 (Kd.R k27 27 wc w.heap.size (fun k_ => k_ ≠ gb110) u4 x4_1) ∧ Aside0 (Kd.R Kd.string 9 wc w.heap.size (fun k_ => some k_ ≠ ((.slice (some ad105) t102.length co12) : Value).ownBlock) v107 t106) ∧ Aside0 (wc.heap[gb101]? = some (.cells #[(.slice none 0 0), .bool x102001_1] 42 (0, 0))) ∧ Aside0 (wc.heap[gb110]? = some (.cells #[.int .i64 0, .int .i64 0, .int .i64 0] 27 (0, 0))) ∧ Aside0 (Below w.heap.size w wc))
          case first =>
           have H := HC24.out
           clear HC24
           by_cases c25 : 0 < (t106.length : Int)
           ·rw [if_pos c25] at H
            have c25b0 : decide (0 < (t106.length : Int)) = true := decide_eq_true c25
            have c25b1 : decide (0 < t106.length) = true := decide_eq_true (by omega)
            clear c25
            (first | rw [c25b0] | (simp only [i64_w, i32_w]; rw [c25b0]) | skip)
            by_cases c26 : (rdOf ByteArray.empty t106 0).toList = ([117] : List UInt8)
            ·rw [if_pos c26] at H
             have c26b0 : ((rdOf ByteArray.empty t106 0).toList == ([117] : List UInt8)) = true := beq_iff_eq.mpr c26
             have c26b1 : ((rdOf ByteArray.empty t106 0).toList != ([117] : List UInt8)) = false := bne_eq_false_iff_eq.mpr c26
             clear c26
             by_cases c27 : 1 < (t106.length : Int)
             ·rw [if_pos c27] at H
              have c27b0 : decide (1 < (t106.length : Int)) = true := decide_eq_true c27
              have c27b1 : decide (1 < t106.length) = true := decide_eq_true (by omega)
              clear c27
              have H' := Aside0.mk H
              clear H
              obtain ⟨Ao28, co28, eo28⟩ := Kd.R_slice HO_6.out
              subst eo28
              have p111 : 0 ≤ (0 : Int) := (by omega)
              have q111 : 0 < (t106.length : Int) := of_decide_eq_true (by first | (with_reducible assumption) | assumption)
              obtain ⟨ad111, e111, hx111_0⟩ := Kd.at_string (Kd.R_reads' HO_6.out).2.2 0 p111 q111
              cases e111
              have qi111 : (0 < t106.length) = True := eq_true (by omega)
              (try rw [show ((0 : Int)).toNat = 0 from rfl] at hx111_0)
              (try rw [Addr.add_zero'] at hx111_0)
              have hn111_0 : ad111.block ≠ gb110 := Kd.own_blk (Kd.R_ne HO_6.out BK110.out (by decide))
              have hn111_1 : ad111.block ≠ gb110 := Kd.own_blk (Kd.R_ne HO_6.out BK110.out (by decide))
              have hn111_2 : ad111.block ≠ gb110 := Kd.own_blk (Kd.R_ne HO_6.out BK110.out (by decide))
              replace hx111_0 := (cell_far (p := ⟨gb110, 0, none⟩) (by first | (rw [add_block]; exact hn111_0) | (show (Addr.add _ _).block ≠ _; rw [add_block]; exact hn111_0) | exact hn111_0) (.int .i64 0)).trans hx111_0
              replace hx111_0 := (cell_far (p := ⟨gb110, 1, none⟩) (by first | (rw [add_block]; exact hn111_1) | (show (Addr.add _ _).block ≠ _; rw [add_block]; exact hn111_1) | exact hn111_1) (.int .i64 0)).trans hx111_0
              replace hx111_0 := (cell_far (p := ⟨gb110, 2, none⟩) (by first | (rw [add_block]; exact hn111_2) | (show (Addr.add _ _).block ≠ _; rw [add_block]; exact hn111_2) | exact hn111_2) (.int .i64 0)).trans hx111_0
              clear hn111_0
              clear hn111_1
              clear hn111_2
              replace p111 := eq_true p111
              replace q111 := eq_true q111
              have p112 : 0 ≤ (1 : Int) := (by omega)
              have q112 : 1 < (t106.length : Int) := of_decide_eq_true (by first | (with_reducible assumption) | assumption)
              obtain ⟨ad112, e112, hx112_0⟩ := Kd.at_string (Kd.R_reads' HO_6.out).2.2 1 p112 q112
              obtain rfl : ad111 = ad112 := (by injection e112)
              (try simp only [show (1 : Int).toNat = 1 from rfl, Nat.reduceMul, Nat.reduceEqDiff, Go.Addr.add, ↓reduceIte] at hx112_0)
              have qi112 : (1 < t106.length) = True := eq_true (by omega)
              (try rw [show ((1 : Int)).toNat = 1 from rfl] at hx112_0)
              have hn112_0 : ad111.block ≠ gb110 := Kd.own_blk (Kd.R_ne HO_6.out BK110.out (by decide))
              have hn112_1 : ad111.block ≠ gb110 := Kd.own_blk (Kd.R_ne HO_6.out BK110.out (by decide))
              have hn112_2 : ad111.block ≠ gb110 := Kd.own_blk (Kd.R_ne HO_6.out BK110.out (by decide))
              replace hx112_0 := (cell_far (p := ⟨gb110, 0, none⟩) (by first | (rw [add_block]; exact hn112_0) | (show (Addr.add _ _).block ≠ _; rw [add_block]; exact hn112_0) | exact hn112_0) (.int .i64 0)).trans hx112_0
              replace hx112_0 := (cell_far (p := ⟨gb110, 1, none⟩) (by first | (rw [add_block]; exact hn112_1) | (show (Addr.add _ _).block ≠ _; rw [add_block]; exact hn112_1) | exact hn112_1) (.int .i64 0)).trans hx112_0
              replace hx112_0 := (cell_far (p := ⟨gb110, 2, none⟩) (by first | (rw [add_block]; exact hn112_2) | (show (Addr.add _ _).block ≠ _; rw [add_block]; exact hn112_2) | exact hn112_2) (.int .i64 0)).trans hx112_0
              clear hn112_0
              clear hn112_1
              clear hn112_2
              replace p112 := eq_true p112
              replace q112 := eq_true q112
              go_wp2
              go_meet
              case rel => exact ⟨_, (((rdOf ByteArray.empty t106 1).toList == ([] : List UInt8))), (by first | rfl | (simp; done) | (simp [*]; done)), H', ⟨by have := HK1.out; have := HJ10.out; first | omega | exact Nat.le_refl _⟩, ⟨by (with_reducible repeat (first | apply Kd.R_alloc | apply Kd.R_drewN | apply Kd.R_drew)); exact Kd.R_mono (Kd.R_far (p := ⟨gb110, 2, none⟩) (Kd.R_far (p := ⟨gb110, 1, none⟩) (Kd.R_far (p := ⟨gb110, 0, none⟩) (Kd.R_types HO_3.out BK110.out (by decide)) (fun _ hk => hk.2) (.int .i64 0)) (fun _ hk => hk.2) (.int .i64 0)) (fun _ hk => hk.2) (.int .i64 0)) (fun _ hk => hk.1)⟩, ⟨by (with_reducible repeat (first | apply Kd.R_alloc | apply Kd.R_drewN | apply Kd.R_drew)); exact Kd.R_mono (Kd.R_far (p := ⟨gb110, 2, none⟩) (Kd.R_far (p := ⟨gb110, 1, none⟩) (Kd.R_far (p := ⟨gb110, 0, none⟩) (Kd.R_mono HO_4.out (fun k_ hk => (⟨hk, hk.2⟩ : _ ∧ k_ ≠ gb110))) (fun _ hk => hk.2) (.int .i64 0)) (fun _ hk => hk.2) (.int .i64 0)) (fun _ hk => hk.2) (.int .i64 0)) (fun _ hk => hk.1.2)⟩, ⟨by (with_reducible repeat (first | apply Kd.R_alloc | apply Kd.R_drewN | apply Kd.R_drew)); exact Kd.R_mono (Kd.R_far (p := ⟨gb110, 2, none⟩) (Kd.R_far (p := ⟨gb110, 1, none⟩) (Kd.R_far (p := ⟨gb110, 0, none⟩) (Kd.R_types HO_6.out BK110.out (by decide)) (fun _ hk => hk.2) (.int .i64 0)) (fun _ hk => hk.2) (.int .i64 0)) (fun _ hk => hk.2) (.int .i64 0)) (fun _ hk => hk.1)⟩, ⟨by (with_reducible repeat (first | refine blk_drewN ?_ _ | refine blk_drew ?_ | refine blk_alloc ?_ _)); refine blk_far ?_ NB101_110.out _; (with_reducible repeat (first | refine blk_drewN ?_ _ | refine blk_drew ?_ | refine blk_alloc ?_ _)); refine blk_far ?_ NB101_110.out _; (with_reducible repeat (first | refine blk_drewN ?_ _ | refine blk_drew ?_ | refine blk_alloc ?_ _)); refine blk_far ?_ NB101_110.out _; (with_reducible repeat (first | refine blk_drewN ?_ _ | refine blk_drew ?_ | refine blk_alloc ?_ _)); exact BK101.out⟩, ⟨by (with_reducible repeat (first | refine blk_drewN ?_ _ | refine blk_drew ?_ | refine blk_alloc ?_ _)); refine blk_put (cs := #[.int .i64 0, .int .i64 0, .int .i64 0]) ?_ 2 _ rfl; (with_reducible repeat (first | refine blk_drewN ?_ _ | refine blk_drew ?_ | refine blk_alloc ?_ _)); refine blk_put (cs := #[.int .i64 0, .int .i64 0, .int .i64 0]) ?_ 1 _ rfl; (with_reducible repeat (first | refine blk_drewN ?_ _ | refine blk_drew ?_ | refine blk_alloc ?_ _)); refine blk_put (cs := #[.int .i64 0, .int .i64 0, .int .i64 0]) ?_ 0 _ rfl; (with_reducible repeat (first | refine blk_drewN ?_ _ | refine blk_drew ?_ | refine blk_alloc ?_ _)); exact BK110.out⟩, ⟨by repeat (first | (with_reducible first | exact HB.out | apply below_alloc | apply pw_below_drewN | apply below_drew1 | refine below_set ?_ GE101.out | refine below_set ?_ GE110.out) | exact HB.out)⟩⟩
             ·rw [if_neg c27] at H
              exact absurd H (by simp)
            ·rw [if_neg c26] at H
             have c26b0 : ((rdOf ByteArray.empty t106 0).toList == ([117] : List UInt8)) = false := beq_eq_false_iff_ne.mpr c26
             have c26b1 : ((rdOf ByteArray.empty t106 0).toList != ([117] : List UInt8)) = true := bne_iff_ne.mpr c26
             have H' := Aside0.mk H
             clear H
             obtain ⟨Ao29, co29, eo29⟩ := Kd.R_slice HO_6.out
             subst eo29
             have p111 : 0 ≤ (0 : Int) := (by omega)
             have q111 : 0 < (t106.length : Int) := of_decide_eq_true (by first | (with_reducible assumption) | assumption)
             obtain ⟨ad111, e111, hx111_0⟩ := Kd.at_string (Kd.R_reads' HO_6.out).2.2 0 p111 q111
             cases e111
             have qi111 : (0 < t106.length) = True := eq_true (by omega)
             (try rw [show ((0 : Int)).toNat = 0 from rfl] at hx111_0)
             (try rw [Addr.add_zero'] at hx111_0)
             have hn111_0 : ad111.block ≠ gb110 := Kd.own_blk (Kd.R_ne HO_6.out BK110.out (by decide))
             have hn111_1 : ad111.block ≠ gb110 := Kd.own_blk (Kd.R_ne HO_6.out BK110.out (by decide))
             have hn111_2 : ad111.block ≠ gb110 := Kd.own_blk (Kd.R_ne HO_6.out BK110.out (by decide))
             replace hx111_0 := (cell_far (p := ⟨gb110, 0, none⟩) (by first | (rw [add_block]; exact hn111_0) | (show (Addr.add _ _).block ≠ _; rw [add_block]; exact hn111_0) | exact hn111_0) (.int .i64 0)).trans hx111_0
             replace hx111_0 := (cell_far (p := ⟨gb110, 1, none⟩) (by first | (rw [add_block]; exact hn111_1) | (show (Addr.add _ _).block ≠ _; rw [add_block]; exact hn111_1) | exact hn111_1) (.int .i64 0)).trans hx111_0
             replace hx111_0 := (cell_far (p := ⟨gb110, 2, none⟩) (by first | (rw [add_block]; exact hn111_2) | (show (Addr.add _ _).block ≠ _; rw [add_block]; exact hn111_2) | exact hn111_2) (.int .i64 0)).trans hx111_0
             clear hn111_0
             clear hn111_1
             clear hn111_2
             replace p111 := eq_true p111
             replace q111 := eq_true q111
             go_wp2
             go_meet
             case rel => exact ⟨_, (false), (by first | rfl | (simp; done) | (simp [*]; done)), H', ⟨by have := HK1.out; have := HJ10.out; first | omega | exact Nat.le_refl _⟩, ⟨by (with_reducible repeat (first | apply Kd.R_alloc | apply Kd.R_drewN | apply Kd.R_drew)); exact Kd.R_mono (Kd.R_far (p := ⟨gb110, 2, none⟩) (Kd.R_far (p := ⟨gb110, 1, none⟩) (Kd.R_far (p := ⟨gb110, 0, none⟩) (Kd.R_types HO_3.out BK110.out (by decide)) (fun _ hk => hk.2) (.int .i64 0)) (fun _ hk => hk.2) (.int .i64 0)) (fun _ hk => hk.2) (.int .i64 0)) (fun _ hk => hk.1)⟩, ⟨by (with_reducible repeat (first | apply Kd.R_alloc | apply Kd.R_drewN | apply Kd.R_drew)); exact Kd.R_mono (Kd.R_far (p := ⟨gb110, 2, none⟩) (Kd.R_far (p := ⟨gb110, 1, none⟩) (Kd.R_far (p := ⟨gb110, 0, none⟩) (Kd.R_mono HO_4.out (fun k_ hk => (⟨hk, hk.2⟩ : _ ∧ k_ ≠ gb110))) (fun _ hk => hk.2) (.int .i64 0)) (fun _ hk => hk.2) (.int .i64 0)) (fun _ hk => hk.2) (.int .i64 0)) (fun _ hk => hk.1.2)⟩, ⟨by (with_reducible repeat (first | apply Kd.R_alloc | apply Kd.R_drewN | apply Kd.R_drew)); exact Kd.R_mono (Kd.R_far (p := ⟨gb110, 2, none⟩) (Kd.R_far (p := ⟨gb110, 1, none⟩) (Kd.R_far (p := ⟨gb110, 0, none⟩) (Kd.R_types HO_6.out BK110.out (by decide)) (fun _ hk => hk.2) (.int .i64 0)) (fun _ hk => hk.2) (.int .i64 0)) (fun _ hk => hk.2) (.int .i64 0)) (fun _ hk => hk.1)⟩, ⟨by (with_reducible repeat (first | refine blk_drewN ?_ _ | refine blk_drew ?_ | refine blk_alloc ?_ _)); refine blk_far ?_ NB101_110.out _; (with_reducible repeat (first | refine blk_drewN ?_ _ | refine blk_drew ?_ | refine blk_alloc ?_ _)); refine blk_far ?_ NB101_110.out _; (with_reducible repeat (first | refine blk_drewN ?_ _ | refine blk_drew ?_ | refine blk_alloc ?_ _)); refine blk_far ?_ NB101_110.out _; (with_reducible repeat (first | refine blk_drewN ?_ _ | refine blk_drew ?_ | refine blk_alloc ?_ _)); exact BK101.out⟩, ⟨by (with_reducible repeat (first | refine blk_drewN ?_ _ | refine blk_drew ?_ | refine blk_alloc ?_ _)); refine blk_put (cs := #[.int .i64 0, .int .i64 0, .int .i64 0]) ?_ 2 _ rfl; (with_reducible repeat (first | refine blk_drewN ?_ _ | refine blk_drew ?_ | refine blk_alloc ?_ _)); refine blk_put (cs := #[.int .i64 0, .int .i64 0, .int .i64 0]) ?_ 1 _ rfl; (with_reducible repeat (first | refine blk_drewN ?_ _ | refine blk_drew ?_ | refine blk_alloc ?_ _)); refine blk_put (cs := #[.int .i64 0, .int .i64 0, .int .i64 0]) ?_ 0 _ rfl; (with_reducible repeat (first | refine blk_drewN ?_ _ | refine blk_drew ?_ | refine blk_alloc ?_ _)); exact BK110.out⟩, ⟨by repeat (first | (with_reducible first | exact HB.out | apply below_alloc | apply pw_below_drewN | apply below_drew1 | refine below_set ?_ GE101.out | refine below_set ?_ GE110.out) | exact HB.out)⟩⟩
           ·rw [if_neg c25] at H
            exact absurd H (by simp)
          case rest =>
           clear HC24
           try clear c1
           try clear p1
           try clear q1
           try clear hx1
           try clear qi1
           try clear c2
           try clear c2b0
           try clear c2b1
           try clear p2
           try clear c3
           try clear c8
           try clear c8b0
           try clear c9
           try clear c9b0
           try clear p10
           try clear q10
           try clear hx10
           try clear qi10
           try clear p11
           try clear q11
           try clear hx11
           try clear qi11
           try clear c14
           try clear c14b0
           try clear c14b1
           try clear c15
           try clear c15b0
           try clear c15b1
           try clear c18
           try clear c22
           try clear c25
           try clear c25b0
           try clear c25b1
           try clear c26
           try clear c26b0
           try clear c26b1
           try clear c27
           try clear c27b0
           try clear c27b1
           try clear hcz19_0
           try clear hcz19_1
           try clear hcz23_0
           try clear hcz23_1
           try clear hcz23_2
           try clear hcz4_0
           try clear hcz4_1
           try clear hfz19_0
           try clear hfz19_1
           try clear hfz23_0
           try clear hfz23_1
           try clear hfz23_2
           try clear hfz4_0
           try clear hfz4_1
           try clear hx105_0
           try clear hx109_0
           try clear hx111_0
           try clear hx112_0
           try clear p1
           try clear p10
           try clear p105
           try clear p109
           try clear p111
           try clear p112
           try clear p2
           try clear q1
           try clear q10
           try clear q105
           try clear q109
           try clear q111
           try clear q112
           obtain ⟨kq, x38_23, rfl, HA, HJ23, HO_3, HO_4, HO_6, BK101, BK110, HB⟩ := hcut
           cases kq with
           | zero => exact absurd HA.out (by simp [rParse.j2])
           | succ kj23 =>
            have H := HA.out
            clear HA
            simp only [rParse.j2] at H
            by_cases c30 : x38_23 = true
            ·subst c30
             have H1 : (rParse.j4 kj23 a0 t102 x4_1 x5_1 t106 1 0 0) = some (r1, r2) := by rw [if_pos rfl] at H; exact H
             clear H
             have H := H1
             clear H1
             have H' := Aside0.mk H
             clear H
             have hnb31 := NB110_101.out
             have hnc31 := NB101_110.out
             have hcz32_0 : wc.cell? ⟨gb110, 0, none⟩ = some (.int .i64 0) := (blk_cell BK110.out 0).trans rfl
             have hcz32_1 : wc.cell? ⟨gb110, 1, none⟩ = some (.int .i64 0) := (blk_cell BK110.out 1).trans rfl
             have hcz32_2 : wc.cell? ⟨gb110, 2, none⟩ = some (.int .i64 0) := (blk_cell BK110.out 2).trans rfl
             have hfz32_0 := blk_frozen BK110.out 0
             have hfz32_1 := blk_frozen BK110.out 1
             have hfz32_2 := blk_frozen BK110.out 2
             go_wp2
             go_meet
             case rel => exact ⟨_, (1), H', ⟨by have := HK1.out; have := HJ10.out; have := HJ23.out; first | omega | exact Nat.le_refl _⟩, ⟨by (with_reducible repeat (first | apply Kd.R_alloc | apply Kd.R_drewN | apply Kd.R_drew)); exact Kd.R_mono (Kd.R_far (p := ⟨gb110, 0, none⟩) (Kd.R_types HO_3.out BK110.out (by decide)) (fun _ hk => hk.2) (.int .i64 1)) (fun _ hk => hk.1)⟩, ⟨by (with_reducible repeat (first | apply Kd.R_alloc | apply Kd.R_drewN | apply Kd.R_drew)); exact Kd.R_mono (Kd.R_far (p := ⟨gb110, 0, none⟩) (Kd.R_mono HO_4.out (fun k_ hk => (⟨hk, hk⟩ : _ ∧ k_ ≠ gb110))) (fun _ hk => hk.2) (.int .i64 1)) (fun _ hk => hk.1)⟩, ⟨by (with_reducible repeat (first | apply Kd.R_alloc | apply Kd.R_drewN | apply Kd.R_drew)); exact Kd.R_mono (Kd.R_far (p := ⟨gb110, 0, none⟩) (Kd.R_types HO_6.out BK110.out (by decide)) (fun _ hk => hk.2) (.int .i64 1)) (fun _ hk => hk.1)⟩, ⟨by (with_reducible repeat (first | refine blk_drewN ?_ _ | refine blk_drew ?_ | refine blk_alloc ?_ _)); refine blk_far ?_ NB101_110.out _; (with_reducible repeat (first | refine blk_drewN ?_ _ | refine blk_drew ?_ | refine blk_alloc ?_ _)); exact BK101.out⟩, ⟨by (with_reducible repeat (first | refine blk_drewN ?_ _ | refine blk_drew ?_ | refine blk_alloc ?_ _)); refine blk_put (cs := #[.int .i64 0, .int .i64 0, .int .i64 0]) ?_ 0 _ rfl; (with_reducible repeat (first | refine blk_drewN ?_ _ | refine blk_drew ?_ | refine blk_alloc ?_ _)); exact BK110.out⟩, ⟨by repeat (first | (with_reducible first | exact HB.out | apply below_alloc | apply pw_below_drewN | apply below_drew1 | refine below_set ?_ GE101.out | refine below_set ?_ GE110.out) | exact HB.out)⟩⟩
            ·replace c30 := Bool.eq_false_iff.mpr c30
             subst c30
             have H1 : (if 0 < (t106.length : Int) then (if (rdOf ByteArray.empty t106 0).toList = ([117] : List UInt8) then (rParse.j4 kj23 a0 t102 x4_1 x5_1 t106 2 0 0) else (if (rdOf ByteArray.empty t106 0).toList = ([103] : List UInt8) then (if 1 < (t106.length : Int) then (rParse.j3 kj23 a0 t102 x4_1 x5_1 t106 ((rdOf ByteArray.empty t106 1).toList == ([] : List UInt8)) 0 0 0) else (none)) else (rParse.j3 kj23 a0 t102 x4_1 x5_1 t106 false 0 0 0))) else (none)) = some (r1, r2) := by rw [if_neg (show ¬ (false = true) by decide)] at H; exact H
             clear H
             have H := H1
             clear H1
             by_cases c33 : 0 < (t106.length : Int)
             ·rw [if_pos c33] at H
              have c33b0 : decide (0 < (t106.length : Int)) = true := decide_eq_true c33
              have c33b1 : decide (0 < t106.length) = true := decide_eq_true (by omega)
              clear c33
              by_cases c34 : (rdOf ByteArray.empty t106 0).toList = ([117] : List UInt8)
              ·rw [if_pos c34] at H
               have c34b0 : ((rdOf ByteArray.empty t106 0).toList == ([117] : List UInt8)) = true := beq_iff_eq.mpr c34
               have c34b1 : ((rdOf ByteArray.empty t106 0).toList != ([117] : List UInt8)) = false := bne_eq_false_iff_eq.mpr c34
               clear c34
               have H' := Aside0.mk H
               clear H
               obtain ⟨Ao35, co35, eo35⟩ := Kd.R_slice HO_6.out
               subst eo35
               have p113 : 0 ≤ (0 : Int) := (by omega)
               have q113 : 0 < (t106.length : Int) := of_decide_eq_true (by first | (with_reducible assumption) | assumption)
               obtain ⟨ad113, e113, hx113_0⟩ := Kd.at_string (Kd.R_reads' HO_6.out).2.2 0 p113 q113
               cases e113
               have qi113 : (0 < t106.length) = True := eq_true (by omega)
               (try rw [show ((0 : Int)).toNat = 0 from rfl] at hx113_0)
               (try rw [Addr.add_zero'] at hx113_0)
               replace p113 := eq_true p113
               replace q113 := eq_true q113
               have hnb36 := NB110_101.out
               have hnc36 := NB101_110.out
               have hcz37_0 : wc.cell? ⟨gb110, 0, none⟩ = some (.int .i64 0) := (blk_cell BK110.out 0).trans rfl
               have hcz37_1 : wc.cell? ⟨gb110, 1, none⟩ = some (.int .i64 0) := (blk_cell BK110.out 1).trans rfl
               have hcz37_2 : wc.cell? ⟨gb110, 2, none⟩ = some (.int .i64 0) := (blk_cell BK110.out 2).trans rfl
               have hfz37_0 := blk_frozen BK110.out 0
               have hfz37_1 := blk_frozen BK110.out 1
               have hfz37_2 := blk_frozen BK110.out 2
               go_wp2
               go_meet
               case rel => exact ⟨_, (2), H', ⟨by have := HK1.out; have := HJ10.out; have := HJ23.out; first | omega | exact Nat.le_refl _⟩, ⟨by (with_reducible repeat (first | apply Kd.R_alloc | apply Kd.R_drewN | apply Kd.R_drew)); exact Kd.R_mono (Kd.R_far (p := ⟨gb110, 0, none⟩) (Kd.R_types HO_3.out BK110.out (by decide)) (fun _ hk => hk.2) (.int .i64 2)) (fun _ hk => hk.1)⟩, ⟨by (with_reducible repeat (first | apply Kd.R_alloc | apply Kd.R_drewN | apply Kd.R_drew)); exact Kd.R_mono (Kd.R_far (p := ⟨gb110, 0, none⟩) (Kd.R_mono HO_4.out (fun k_ hk => (⟨hk, hk⟩ : _ ∧ k_ ≠ gb110))) (fun _ hk => hk.2) (.int .i64 2)) (fun _ hk => hk.1)⟩, ⟨by (with_reducible repeat (first | apply Kd.R_alloc | apply Kd.R_drewN | apply Kd.R_drew)); exact Kd.R_mono (Kd.R_far (p := ⟨gb110, 0, none⟩) (Kd.R_types HO_6.out BK110.out (by decide)) (fun _ hk => hk.2) (.int .i64 2)) (fun _ hk => hk.1)⟩, ⟨by (with_reducible repeat (first | refine blk_drewN ?_ _ | refine blk_drew ?_ | refine blk_alloc ?_ _)); refine blk_far ?_ NB101_110.out _; (with_reducible repeat (first | refine blk_drewN ?_ _ | refine blk_drew ?_ | refine blk_alloc ?_ _)); exact BK101.out⟩, ⟨by (with_reducible repeat (first | refine blk_drewN ?_ _ | refine blk_drew ?_ | refine blk_alloc ?_ _)); refine blk_put (cs := #[.int .i64 0, .int .i64 0, .int .i64 0]) ?_ 0 _ rfl; (with_reducible repeat (first | refine blk_drewN ?_ _ | refine blk_drew ?_ | refine blk_alloc ?_ _)); exact BK110.out⟩, ⟨by repeat (first | (with_reducible first | exact HB.out | apply below_alloc | apply pw_below_drewN | apply below_drew1 | refine below_set ?_ GE101.out | refine below_set ?_ GE110.out) | exact HB.out)⟩⟩
              ·rw [if_neg c34] at H
               have c34b0 : ((rdOf ByteArray.empty t106 0).toList == ([117] : List UInt8)) = false := beq_eq_false_iff_ne.mpr c34
               have c34b1 : ((rdOf ByteArray.empty t106 0).toList != ([117] : List UInt8)) = true := bne_iff_ne.mpr c34
               have HC38 := Aside0.mk H
               clear H
               obtain ⟨Ao39, co39, eo39⟩ := Kd.R_slice HO_6.out
               subst eo39
               have p113 : 0 ≤ (0 : Int) := (by omega)
               have q113 : 0 < (t106.length : Int) := of_decide_eq_true (by first | (with_reducible assumption) | assumption)
               obtain ⟨ad113, e113, hx113_0⟩ := Kd.at_string (Kd.R_reads' HO_6.out).2.2 0 p113 q113
               cases e113
               have qi113 : (0 < t106.length) = True := eq_true (by omega)
               (try rw [show ((0 : Int)).toNat = 0 from rfl] at hx113_0)
               (try rw [Addr.add_zero'] at hx113_0)
               replace p113 := eq_true p113
               replace q113 := eq_true q113
               go_upto_region 16 with (fail)
               go_cut [56] (fun v56 wc => ∃ (kq : Nat) (x56_37 : Bool), v56 = .bool x56_37 ∧ Aside0 (rParse.j3 kq a0 t102 x4_1 x5_1 t106 x56_37 0 0 0 = some (r1, r2)) ∧ Aside0 (kq ≤ kj23) ∧ Aside0 (Kd.R Kd.string 9 wc w.heap.size (fun k_ => some k_ ≠ ((.slice (some ad113) t106.length co39) : Value).ownBlock) (.slice (some ad105) t102.length co12) t102) ∧ Aside0 (Kd.R k27 27 wc w.heap.size (fun k_ => k_ ≠ gb110) u4 x4_1) ∧ Aside0 (Kd.R Kd.string 9 wc w.heap.size (fun k_ => some k_ ≠ ((.slice (some ad105) t102.length co12) : Value).ownBlock) (.slice (some ad113) t106.length co39) t106) ∧ Aside0 (wc.heap[gb101]? = some (.cells #[(.slice none 0 0), .bool x102001_1] 42 (0, 0))) ∧ Aside0 (wc.heap[gb110]? = some (.cells #[.int .i64 0, .int .i64 0, .int .i64 0] 27 (0, 0))) ∧ Aside0 (Below w.heap.size w wc))
               case first =>
                have H := HC38.out
                clear HC38
                by_cases c40 : (rdOf ByteArray.empty t106 0).toList = ([103] : List UInt8)
                ·rw [if_pos c40] at H
                 have c40b0 : ((rdOf ByteArray.empty t106 0).toList == ([103] : List UInt8)) = true := beq_iff_eq.mpr c40
                 have c40b1 : ((rdOf ByteArray.empty t106 0).toList != ([103] : List UInt8)) = false := bne_eq_false_iff_eq.mpr c40
                 clear c40
                 (first | rw [c40b0] | (simp only [i64_w, i32_w]; rw [c40b0]) | skip)
                 by_cases c41 : 1 < (t106.length : Int)
                 ·rw [if_pos c41] at H
                  have c41b0 : decide (1 < (t106.length : Int)) = true := decide_eq_true c41
                  have c41b1 : decide (1 < t106.length) = true := decide_eq_true (by omega)
                  clear c41
                  have H' := Aside0.mk H
                  clear H
                  have p114 : 0 ≤ (0 : Int) := (by omega)
                  have q114 : 0 < (t106.length : Int) := of_decide_eq_true (by first | (with_reducible assumption) | assumption)
                  obtain ⟨ad114, e114, hx114_0⟩ := Kd.at_string (Kd.R_reads' HO_6.out).2.2 0 p114 q114
                  obtain rfl : ad113 = ad114 := (by injection e114)
                  have qi114 : (0 < t106.length) = True := eq_true (by omega)
                  (try rw [show ((0 : Int)).toNat = 0 from rfl] at hx114_0)
                  (try rw [Addr.add_zero'] at hx114_0)
                  replace p114 := eq_true p114
                  replace q114 := eq_true q114
                  have p115 : 0 ≤ (1 : Int) := (by omega)
                  have q115 : 1 < (t106.length : Int) := of_decide_eq_true (by first | (with_reducible assumption) | assumption)
                  obtain ⟨ad115, e115, hx115_0⟩ := Kd.at_string (Kd.R_reads' HO_6.out).2.2 1 p115 q115
                  obtain rfl : ad113 = ad115 := (by injection e115)
                  (try simp only [show (1 : Int).toNat = 1 from rfl, Nat.reduceMul, Nat.reduceEqDiff, Go.Addr.add, ↓reduceIte] at hx115_0)
                  have qi115 : (1 < t106.length) = True := eq_true (by omega)
                  (try rw [show ((1 : Int)).toNat = 1 from rfl] at hx115_0)
                  replace p115 := eq_true p115
                  replace q115 := eq_true q115
                  go_wp2
                  go_meet
                  case rel => exact ⟨_, (((rdOf ByteArray.empty t106 1).toList == ([] : List UInt8))), (by first | rfl | (simp; done) | (simp [*]; done)), H', ⟨by have := HK1.out; have := HJ10.out; have := HJ23.out; first | omega | exact Nat.le_refl _⟩, ⟨by (with_reducible repeat (first | apply Kd.R_alloc | apply Kd.R_drewN | apply Kd.R_drew)); exact HO_3.out⟩, ⟨by (with_reducible repeat (first | apply Kd.R_alloc | apply Kd.R_drewN | apply Kd.R_drew)); exact HO_4.out⟩, ⟨by (with_reducible repeat (first | apply Kd.R_alloc | apply Kd.R_drewN | apply Kd.R_drew)); exact HO_6.out⟩, ⟨by (with_reducible repeat (first | refine blk_drewN ?_ _ | refine blk_drew ?_ | refine blk_alloc ?_ _)); exact BK101.out⟩, ⟨by (with_reducible repeat (first | refine blk_drewN ?_ _ | refine blk_drew ?_ | refine blk_alloc ?_ _)); exact BK110.out⟩, ⟨by repeat (first | (with_reducible first | exact HB.out | apply below_alloc | apply pw_below_drewN | apply below_drew1 | refine below_set ?_ GE101.out | refine below_set ?_ GE110.out) | exact HB.out)⟩⟩
                 ·rw [if_neg c41] at H
                  exact absurd H (by simp)
                ·rw [if_neg c40] at H
                 have c40b0 : ((rdOf ByteArray.empty t106 0).toList == ([103] : List UInt8)) = false := beq_eq_false_iff_ne.mpr c40
                 have c40b1 : ((rdOf ByteArray.empty t106 0).toList != ([103] : List UInt8)) = true := bne_iff_ne.mpr c40
                 (first | rw [c40b0] | (simp only [i64_w, i32_w]; rw [c40b0]) | skip)
                 have H' := Aside0.mk H
                 clear H
                 have p114 : 0 ≤ (0 : Int) := (by omega)
                 have q114 : 0 < (t106.length : Int) := of_decide_eq_true (by first | (with_reducible assumption) | assumption)
                 obtain ⟨ad114, e114, hx114_0⟩ := Kd.at_string (Kd.R_reads' HO_6.out).2.2 0 p114 q114
                 obtain rfl : ad113 = ad114 := (by injection e114)
                 have qi114 : (0 < t106.length) = True := eq_true (by omega)
                 (try rw [show ((0 : Int)).toNat = 0 from rfl] at hx114_0)
                 (try rw [Addr.add_zero'] at hx114_0)
                 replace p114 := eq_true p114
                 replace q114 := eq_true q114
                 go_wp2
                 go_meet
                 case rel => exact ⟨_, (false), (by first | rfl | (simp; done) | (simp [*]; done)), H', ⟨by have := HK1.out; have := HJ10.out; have := HJ23.out; first | omega | exact Nat.le_refl _⟩, ⟨by (with_reducible repeat (first | apply Kd.R_alloc | apply Kd.R_drewN | apply Kd.R_drew)); exact HO_3.out⟩, ⟨by (with_reducible repeat (first | apply Kd.R_alloc | apply Kd.R_drewN | apply Kd.R_drew)); exact HO_4.out⟩, ⟨by (with_reducible repeat (first | apply Kd.R_alloc | apply Kd.R_drewN | apply Kd.R_drew)); exact HO_6.out⟩, ⟨by (with_reducible repeat (first | refine blk_drewN ?_ _ | refine blk_drew ?_ | refine blk_alloc ?_ _)); exact BK101.out⟩, ⟨by (with_reducible repeat (first | refine blk_drewN ?_ _ | refine blk_drew ?_ | refine blk_alloc ?_ _)); exact BK110.out⟩, ⟨by repeat (first | (with_reducible first | exact HB.out | apply below_alloc | apply pw_below_drewN | apply below_drew1 | refine below_set ?_ GE101.out | refine below_set ?_ GE110.out) | exact HB.out)⟩⟩
               case rest =>
                clear HC38
                try clear c1
                try clear p1
                try clear q1
                try clear hx1
                try clear qi1
                try clear c2
                try clear c2b0
                try clear c2b1
                try clear p2
                try clear c3
                try clear c4
                try clear c8
                try clear c8b0
                try clear c9
                try clear c9b0
                try clear p10
                try clear q10
                try clear hx10
                try clear qi10
                try clear p11
                try clear q11
                try clear hx11
                try clear qi11
                try clear c14
                try clear c14b0
                try clear c14b1
                try clear c15
                try clear c15b0
                try clear c15b1
                try clear c18
                try clear c22
                try clear c25
                try clear c25b0
                try clear c25b1
                try clear c26
                try clear c26b0
                try clear c26b1
                try clear c27
                try clear c27b0
                try clear c27b1
                try clear c30
                try clear c31
                try clear c32
                try clear c33
                try clear c33b0
                try clear c33b1
                try clear c34
                try clear c34b0
                try clear c34b1
                try clear c36
                try clear c40
                try clear c40b0
                try clear c40b1
                try clear c41
                try clear c41b0
                try clear c41b1
                try clear hcz19_0
                try clear hcz19_1
                try clear hcz23_0
                try clear hcz23_1
                try clear hcz23_2
                try clear hcz32_0
                try clear hcz32_1
                try clear hcz32_2
                try clear hcz37_0
                try clear hcz37_1
                try clear hcz37_2
                try clear hcz4_0
                try clear hcz4_1
                try clear hfz19_0
                try clear hfz19_1
                try clear hfz23_0
                try clear hfz23_1
                try clear hfz23_2
                try clear hfz32_0
                try clear hfz32_1
                try clear hfz32_2
                try clear hfz37_0
                try clear hfz37_1
                try clear hfz37_2
                try clear hfz4_0
                try clear hfz4_1
                try clear hx105_0
                try clear hx109_0
                try clear hx111_0
                try clear hx112_0
                try clear hx113_0
                try clear hx114_0
                try clear hx115_0
                try clear p1
                try clear p10
                try clear p105
                try clear p109
                try clear p11
                try clear p111
                try clear p112
                try clear p113
                try clear p114
                try clear p115
                try clear p2
                try clear q1
                try clear q10
                try clear q105
                try clear q109
                try clear q11
                try clear q111
                try clear q112
                try clear q113
                try clear q114
                try clear q115
                obtain ⟨kq, x56_37, rfl, HA, HJ37, HO_3, HO_4, HO_6, BK101, BK110, HB⟩ := hcut
                cases kq with
                | zero => exact absurd HA.out (by simp [rParse.j3])
                | succ kj37 =>
                 have H := HA.out
                 clear HA
                 simp only [rParse.j3] at H
                 by_cases c42 : x56_37 = true
                 ·subst c42
                  have H1 : (rParse.j4 kj37 a0 t102 x4_1 x5_1 t106 3 0 0) = some (r1, r2) := by rw [if_pos rfl] at H; exact H
                  clear H
                  have H := H1
                  clear H1
                  have H' := Aside0.mk H
                  clear H
                  have hnb43 := NB110_101.out
                  have hnc43 := NB101_110.out
                  have hcz44_0 : wc.cell? ⟨gb110, 0, none⟩ = some (.int .i64 0) := (blk_cell BK110.out 0).trans rfl
                  have hcz44_1 : wc.cell? ⟨gb110, 1, none⟩ = some (.int .i64 0) := (blk_cell BK110.out 1).trans rfl
                  have hcz44_2 : wc.cell? ⟨gb110, 2, none⟩ = some (.int .i64 0) := (blk_cell BK110.out 2).trans rfl
                  have hfz44_0 := blk_frozen BK110.out 0
                  have hfz44_1 := blk_frozen BK110.out 1
                  have hfz44_2 := blk_frozen BK110.out 2
                  go_wp2
                  go_meet
                  case rel => exact ⟨_, (3), H', ⟨by have := HK1.out; have := HJ10.out; have := HJ23.out; have := HJ37.out; first | omega | exact Nat.le_refl _⟩, ⟨by (with_reducible repeat (first | apply Kd.R_alloc | apply Kd.R_drewN | apply Kd.R_drew)); exact Kd.R_mono (Kd.R_far (p := ⟨gb110, 0, none⟩) (Kd.R_types HO_3.out BK110.out (by decide)) (fun _ hk => hk.2) (.int .i64 3)) (fun _ hk => hk.1)⟩, ⟨by (with_reducible repeat (first | apply Kd.R_alloc | apply Kd.R_drewN | apply Kd.R_drew)); exact Kd.R_mono (Kd.R_far (p := ⟨gb110, 0, none⟩) (Kd.R_mono HO_4.out (fun k_ hk => (⟨hk, hk⟩ : _ ∧ k_ ≠ gb110))) (fun _ hk => hk.2) (.int .i64 3)) (fun _ hk => hk.1)⟩, ⟨by (with_reducible repeat (first | apply Kd.R_alloc | apply Kd.R_drewN | apply Kd.R_drew)); exact Kd.R_mono (Kd.R_far (p := ⟨gb110, 0, none⟩) (Kd.R_types HO_6.out BK110.out (by decide)) (fun _ hk => hk.2) (.int .i64 3)) (fun _ hk => hk.1)⟩, ⟨by (with_reducible repeat (first | refine blk_drewN ?_ _ | refine blk_drew ?_ | refine blk_alloc ?_ _)); refine blk_far ?_ NB101_110.out _; (with_reducible repeat (first | refine blk_drewN ?_ _ | refine blk_drew ?_ | refine blk_alloc ?_ _)); exact BK101.out⟩, ⟨by (with_reducible repeat (first | refine blk_drewN ?_ _ | refine blk_drew ?_ | refine blk_alloc ?_ _)); refine blk_put (cs := #[.int .i64 0, .int .i64 0, .int .i64 0]) ?_ 0 _ rfl; (with_reducible repeat (first | refine blk_drewN ?_ _ | refine blk_drew ?_ | refine blk_alloc ?_ _)); exact BK110.out⟩, ⟨by repeat (first | (with_reducible first | exact HB.out | apply below_alloc | apply pw_below_drewN | apply below_drew1 | refine below_set ?_ GE101.out | refine below_set ?_ GE110.out) | exact HB.out)⟩⟩
                 ·replace c42 := Bool.eq_false_iff.mpr c42
                  subst c42
                  have H1 : (if 0 < (t106.length : Int) then (if (rdOf ByteArray.empty t106 0).toList = ([103] : List UInt8) then (rParse.j4 kj37 a0 t102 x4_1 x5_1 t106 4 0 0) else (if (rdOf ByteArray.empty t106 0).toList = ([109] : List UInt8) then (rParse.j4 kj37 a0 t102 x4_1 x5_1 t106 5 0 0) else (if (rdOf ByteArray.empty t106 0).toList = ([111] : List UInt8) then (rParse.j4 kj37 a0 t102 x4_1 x5_1 t106 6 0 0) else (rParse.j4 kj37 a0 t102 x4_1 x5_1 t106 0 0 0)))) else (none)) = some (r1, r2) := by rw [if_neg (show ¬ (false = true) by decide)] at H; exact H
                  clear H
                  have H := H1
                  clear H1
                  by_cases c45 : 0 < (t106.length : Int)
                  ·rw [if_pos c45] at H
                   have c45b0 : decide (0 < (t106.length : Int)) = true := decide_eq_true c45
                   have c45b1 : decide (0 < t106.length) = true := decide_eq_true (by omega)
                   clear c45
                   by_cases c46 : (rdOf ByteArray.empty t106 0).toList = ([103] : List UInt8)
                   ·rw [if_pos c46] at H
                    have c46b0 : ((rdOf ByteArray.empty t106 0).toList == ([103] : List UInt8)) = true := beq_iff_eq.mpr c46
                    have c46b1 : ((rdOf ByteArray.empty t106 0).toList != ([103] : List UInt8)) = false := bne_eq_false_iff_eq.mpr c46
                    clear c46
                    have H' := Aside0.mk H
                    clear H
                    have p116 : 0 ≤ (0 : Int) := (by omega)
                    have q116 : 0 < (t106.length : Int) := of_decide_eq_true (by first | (with_reducible assumption) | assumption)
                    obtain ⟨ad116, e116, hx116_0⟩ := Kd.at_string (Kd.R_reads' HO_6.out).2.2 0 p116 q116
                    obtain rfl : ad113 = ad116 := (by injection e116)
                    have qi116 : (0 < t106.length) = True := eq_true (by omega)
                    (try rw [show ((0 : Int)).toNat = 0 from rfl] at hx116_0)
                    (try rw [Addr.add_zero'] at hx116_0)
                    replace p116 := eq_true p116
                    replace q116 := eq_true q116
                    have hnb47 := NB110_101.out
                    have hnc47 := NB101_110.out
                    have hcz48_0 : wc.cell? ⟨gb110, 0, none⟩ = some (.int .i64 0) := (blk_cell BK110.out 0).trans rfl
                    have hcz48_1 : wc.cell? ⟨gb110, 1, none⟩ = some (.int .i64 0) := (blk_cell BK110.out 1).trans rfl
                    have hcz48_2 : wc.cell? ⟨gb110, 2, none⟩ = some (.int .i64 0) := (blk_cell BK110.out 2).trans rfl
                    have hfz48_0 := blk_frozen BK110.out 0
                    have hfz48_1 := blk_frozen BK110.out 1
                    have hfz48_2 := blk_frozen BK110.out 2
                    go_wp2
                    go_meet
                    case rel => exact ⟨_, (4), H', ⟨by have := HK1.out; have := HJ10.out; have := HJ23.out; have := HJ37.out; first | omega | exact Nat.le_refl _⟩, ⟨by (with_reducible repeat (first | apply Kd.R_alloc | apply Kd.R_drewN | apply Kd.R_drew)); exact Kd.R_mono (Kd.R_far (p := ⟨gb110, 0, none⟩) (Kd.R_types HO_3.out BK110.out (by decide)) (fun _ hk => hk.2) (.int .i64 4)) (fun _ hk => hk.1)⟩, ⟨by (with_reducible repeat (first | apply Kd.R_alloc | apply Kd.R_drewN | apply Kd.R_drew)); exact Kd.R_mono (Kd.R_far (p := ⟨gb110, 0, none⟩) (Kd.R_mono HO_4.out (fun k_ hk => (⟨hk, hk⟩ : _ ∧ k_ ≠ gb110))) (fun _ hk => hk.2) (.int .i64 4)) (fun _ hk => hk.1)⟩, ⟨by (with_reducible repeat (first | apply Kd.R_alloc | apply Kd.R_drewN | apply Kd.R_drew)); exact Kd.R_mono (Kd.R_far (p := ⟨gb110, 0, none⟩) (Kd.R_types HO_6.out BK110.out (by decide)) (fun _ hk => hk.2) (.int .i64 4)) (fun _ hk => hk.1)⟩, ⟨by (with_reducible repeat (first | refine blk_drewN ?_ _ | refine blk_drew ?_ | refine blk_alloc ?_ _)); refine blk_far ?_ NB101_110.out _; (with_reducible repeat (first | refine blk_drewN ?_ _ | refine blk_drew ?_ | refine blk_alloc ?_ _)); exact BK101.out⟩, ⟨by (with_reducible repeat (first | refine blk_drewN ?_ _ | refine blk_drew ?_ | refine blk_alloc ?_ _)); refine blk_put (cs := #[.int .i64 0, .int .i64 0, .int .i64 0]) ?_ 0 _ rfl; (with_reducible repeat (first | refine blk_drewN ?_ _ | refine blk_drew ?_ | refine blk_alloc ?_ _)); exact BK110.out⟩, ⟨by repeat (first | (with_reducible first | exact HB.out | apply below_alloc | apply pw_below_drewN | apply below_drew1 | refine below_set ?_ GE101.out | refine below_set ?_ GE110.out) | exact HB.out)⟩⟩
                   ·rw [if_neg c46] at H
                    have c46b0 : ((rdOf ByteArray.empty t106 0).toList == ([103] : List UInt8)) = false := beq_eq_false_iff_ne.mpr c46
                    have c46b1 : ((rdOf ByteArray.empty t106 0).toList != ([103] : List UInt8)) = true := bne_iff_ne.mpr c46
                    by_cases c49 : (rdOf ByteArray.empty t106 0).toList = ([109] : List UInt8)
                    ·rw [if_pos c49] at H
                     have c49b0 : ((rdOf ByteArray.empty t106 0).toList == ([109] : List UInt8)) = true := beq_iff_eq.mpr c49
                     have c49b1 : ((rdOf ByteArray.empty t106 0).toList != ([109] : List UInt8)) = false := bne_eq_false_iff_eq.mpr c49
                     clear c49
                     have H' := Aside0.mk H
                     clear H
                     have p116 : 0 ≤ (0 : Int) := (by omega)
                     have q116 : 0 < (t106.length : Int) := of_decide_eq_true (by first | (with_reducible assumption) | assumption)
                     obtain ⟨ad116, e116, hx116_0⟩ := Kd.at_string (Kd.R_reads' HO_6.out).2.2 0 p116 q116
                     obtain rfl : ad113 = ad116 := (by injection e116)
                     have qi116 : (0 < t106.length) = True := eq_true (by omega)
                     (try rw [show ((0 : Int)).toNat = 0 from rfl] at hx116_0)
                     (try rw [Addr.add_zero'] at hx116_0)
                     replace p116 := eq_true p116
                     replace q116 := eq_true q116
                     have p117 : 0 ≤ (0 : Int) := (by omega)
                     have q117 : 0 < (t106.length : Int) := of_decide_eq_true (by first | (with_reducible assumption) | assumption)
                     obtain ⟨ad117, e117, hx117_0⟩ := Kd.at_string (Kd.R_reads' HO_6.out).2.2 0 p117 q117
                     obtain rfl : ad113 = ad117 := (by injection e117)
                     have qi117 : (0 < t106.length) = True := eq_true (by omega)
                     (try rw [show ((0 : Int)).toNat = 0 from rfl] at hx117_0)
                     (try rw [Addr.add_zero'] at hx117_0)
                     replace p117 := eq_true p117
                     replace q117 := eq_true q117
                     have hnb50 := NB110_101.out
                     have hnc50 := NB101_110.out
                     have hcz51_0 : wc.cell? ⟨gb110, 0, none⟩ = some (.int .i64 0) := (blk_cell BK110.out 0).trans rfl
                     have hcz51_1 : wc.cell? ⟨gb110, 1, none⟩ = some (.int .i64 0) := (blk_cell BK110.out 1).trans rfl
                     have hcz51_2 : wc.cell? ⟨gb110, 2, none⟩ = some (.int .i64 0) := (blk_cell BK110.out 2).trans rfl
                     have hfz51_0 := blk_frozen BK110.out 0
                     have hfz51_1 := blk_frozen BK110.out 1
                     have hfz51_2 := blk_frozen BK110.out 2
                     go_wp2
                     go_meet
                     case rel => exact ⟨_, (5), H', ⟨by have := HK1.out; have := HJ10.out; have := HJ23.out; have := HJ37.out; first | omega | exact Nat.le_refl _⟩, ⟨by (with_reducible repeat (first | apply Kd.R_alloc | apply Kd.R_drewN | apply Kd.R_drew)); exact Kd.R_mono (Kd.R_far (p := ⟨gb110, 0, none⟩) (Kd.R_types HO_3.out BK110.out (by decide)) (fun _ hk => hk.2) (.int .i64 5)) (fun _ hk => hk.1)⟩, ⟨by (with_reducible repeat (first | apply Kd.R_alloc | apply Kd.R_drewN | apply Kd.R_drew)); exact Kd.R_mono (Kd.R_far (p := ⟨gb110, 0, none⟩) (Kd.R_mono HO_4.out (fun k_ hk => (⟨hk, hk⟩ : _ ∧ k_ ≠ gb110))) (fun _ hk => hk.2) (.int .i64 5)) (fun _ hk => hk.1)⟩, ⟨by (with_reducible repeat (first | apply Kd.R_alloc | apply Kd.R_drewN | apply Kd.R_drew)); exact Kd.R_mono (Kd.R_far (p := ⟨gb110, 0, none⟩) (Kd.R_types HO_6.out BK110.out (by decide)) (fun _ hk => hk.2) (.int .i64 5)) (fun _ hk => hk.1)⟩, ⟨by (with_reducible repeat (first | refine blk_drewN ?_ _ | refine blk_drew ?_ | refine blk_alloc ?_ _)); refine blk_far ?_ NB101_110.out _; (with_reducible repeat (first | refine blk_drewN ?_ _ | refine blk_drew ?_ | refine blk_alloc ?_ _)); exact BK101.out⟩, ⟨by (with_reducible repeat (first | refine blk_drewN ?_ _ | refine blk_drew ?_ | refine blk_alloc ?_ _)); refine blk_put (cs := #[.int .i64 0, .int .i64 0, .int .i64 0]) ?_ 0 _ rfl; (with_reducible repeat (first | refine blk_drewN ?_ _ | refine blk_drew ?_ | refine blk_alloc ?_ _)); exact BK110.out⟩, ⟨by repeat (first | (with_reducible first | exact HB.out | apply below_alloc | apply pw_below_drewN | apply below_drew1 | refine below_set ?_ GE101.out | refine below_set ?_ GE110.out) | exact HB.out)⟩⟩
                    ·rw [if_neg c49] at H
                     have c49b0 : ((rdOf ByteArray.empty t106 0).toList == ([109] : List UInt8)) = false := beq_eq_false_iff_ne.mpr c49
                     have c49b1 : ((rdOf ByteArray.empty t106 0).toList != ([109] : List UInt8)) = true := bne_iff_ne.mpr c49
                     by_cases c52 : (rdOf ByteArray.empty t106 0).toList = ([111] : List UInt8)
                     ·rw [if_pos c52] at H
                      have c52b0 : ((rdOf ByteArray.empty t106 0).toList == ([111] : List UInt8)) = true := beq_iff_eq.mpr c52
                      have c52b1 : ((rdOf ByteArray.empty t106 0).toList != ([111] : List UInt8)) = false := bne_eq_false_iff_eq.mpr c52
                      clear c52
                      have H' := Aside0.mk H
                      clear H
                      have p116 : 0 ≤ (0 : Int) := (by omega)
                      have q116 : 0 < (t106.length : Int) := of_decide_eq_true (by first | (with_reducible assumption) | assumption)
                      obtain ⟨ad116, e116, hx116_0⟩ := Kd.at_string (Kd.R_reads' HO_6.out).2.2 0 p116 q116
                      obtain rfl : ad113 = ad116 := (by injection e116)
                      have qi116 : (0 < t106.length) = True := eq_true (by omega)
                      (try rw [show ((0 : Int)).toNat = 0 from rfl] at hx116_0)
                      (try rw [Addr.add_zero'] at hx116_0)
                      replace p116 := eq_true p116
                      replace q116 := eq_true q116
                      have p117 : 0 ≤ (0 : Int) := (by omega)
                      have q117 : 0 < (t106.length : Int) := of_decide_eq_true (by first | (with_reducible assumption) | assumption)
                      obtain ⟨ad117, e117, hx117_0⟩ := Kd.at_string (Kd.R_reads' HO_6.out).2.2 0 p117 q117
                      obtain rfl : ad113 = ad117 := (by injection e117)
                      have qi117 : (0 < t106.length) = True := eq_true (by omega)
                      (try rw [show ((0 : Int)).toNat = 0 from rfl] at hx117_0)
                      (try rw [Addr.add_zero'] at hx117_0)
                      replace p117 := eq_true p117
                      replace q117 := eq_true q117
                      have p118 : 0 ≤ (0 : Int) := (by omega)
                      have q118 : 0 < (t106.length : Int) := of_decide_eq_true (by first | (with_reducible assumption) | assumption)
                      obtain ⟨ad118, e118, hx118_0⟩ := Kd.at_string (Kd.R_reads' HO_6.out).2.2 0 p118 q118
                      obtain rfl : ad113 = ad118 := (by injection e118)
                      have qi118 : (0 < t106.length) = True := eq_true (by omega)
                      (try rw [show ((0 : Int)).toNat = 0 from rfl] at hx118_0)
                      (try rw [Addr.add_zero'] at hx118_0)
                      replace p118 := eq_true p118
                      replace q118 := eq_true q118
                      have hnb53 := NB110_101.out
                      have hnc53 := NB101_110.out
                      have hcz54_0 : wc.cell? ⟨gb110, 0, none⟩ = some (.int .i64 0) := (blk_cell BK110.out 0).trans rfl
                      have hcz54_1 : wc.cell? ⟨gb110, 1, none⟩ = some (.int .i64 0) := (blk_cell BK110.out 1).trans rfl
                      have hcz54_2 : wc.cell? ⟨gb110, 2, none⟩ = some (.int .i64 0) := (blk_cell BK110.out 2).trans rfl
                      have hfz54_0 := blk_frozen BK110.out 0
                      have hfz54_1 := blk_frozen BK110.out 1
                      have hfz54_2 := blk_frozen BK110.out 2
                      go_wp2
                      go_meet
                      case rel => exact ⟨_, (6), H', ⟨by have := HK1.out; have := HJ10.out; have := HJ23.out; have := HJ37.out; first | omega | exact Nat.le_refl _⟩, ⟨by (with_reducible repeat (first | apply Kd.R_alloc | apply Kd.R_drewN | apply Kd.R_drew)); exact Kd.R_mono (Kd.R_far (p := ⟨gb110, 0, none⟩) (Kd.R_types HO_3.out BK110.out (by decide)) (fun _ hk => hk.2) (.int .i64 6)) (fun _ hk => hk.1)⟩, ⟨by (with_reducible repeat (first | apply Kd.R_alloc | apply Kd.R_drewN | apply Kd.R_drew)); exact Kd.R_mono (Kd.R_far (p := ⟨gb110, 0, none⟩) (Kd.R_mono HO_4.out (fun k_ hk => (⟨hk, hk⟩ : _ ∧ k_ ≠ gb110))) (fun _ hk => hk.2) (.int .i64 6)) (fun _ hk => hk.1)⟩, ⟨by (with_reducible repeat (first | apply Kd.R_alloc | apply Kd.R_drewN | apply Kd.R_drew)); exact Kd.R_mono (Kd.R_far (p := ⟨gb110, 0, none⟩) (Kd.R_types HO_6.out BK110.out (by decide)) (fun _ hk => hk.2) (.int .i64 6)) (fun _ hk => hk.1)⟩, ⟨by (with_reducible repeat (first | refine blk_drewN ?_ _ | refine blk_drew ?_ | refine blk_alloc ?_ _)); refine blk_far ?_ NB101_110.out _; (with_reducible repeat (first | refine blk_drewN ?_ _ | refine blk_drew ?_ | refine blk_alloc ?_ _)); exact BK101.out⟩, ⟨by (with_reducible repeat (first | refine blk_drewN ?_ _ | refine blk_drew ?_ | refine blk_alloc ?_ _)); refine blk_put (cs := #[.int .i64 0, .int .i64 0, .int .i64 0]) ?_ 0 _ rfl; (with_reducible repeat (first | refine blk_drewN ?_ _ | refine blk_drew ?_ | refine blk_alloc ?_ _)); exact BK110.out⟩, ⟨by repeat (first | (with_reducible first | exact HB.out | apply below_alloc | apply pw_below_drewN | apply below_drew1 | refine below_set ?_ GE101.out | refine below_set ?_ GE110.out) | exact HB.out)⟩⟩
                     ·rw [if_neg c52] at H
                      have c52b0 : ((rdOf ByteArray.empty t106 0).toList == ([111] : List UInt8)) = false := beq_eq_false_iff_ne.mpr c52
                      have c52b1 : ((rdOf ByteArray.empty t106 0).toList != ([111] : List UInt8)) = true := bne_iff_ne.mpr c52
                      have H' := Aside0.mk H
                      clear H
                      have p116 : 0 ≤ (0 : Int) := (by omega)
                      have q116 : 0 < (t106.length : Int) := of_decide_eq_true (by first | (with_reducible assumption) | assumption)
                      obtain ⟨ad116, e116, hx116_0⟩ := Kd.at_string (Kd.R_reads' HO_6.out).2.2 0 p116 q116
                      obtain rfl : ad113 = ad116 := (by injection e116)
                      have qi116 : (0 < t106.length) = True := eq_true (by omega)
                      (try rw [show ((0 : Int)).toNat = 0 from rfl] at hx116_0)
                      (try rw [Addr.add_zero'] at hx116_0)
                      replace p116 := eq_true p116
                      replace q116 := eq_true q116
                      have p117 : 0 ≤ (0 : Int) := (by omega)
                      have q117 : 0 < (t106.length : Int) := of_decide_eq_true (by first | (with_reducible assumption) | assumption)
                      obtain ⟨ad117, e117, hx117_0⟩ := Kd.at_string (Kd.R_reads' HO_6.out).2.2 0 p117 q117
                      obtain rfl : ad113 = ad117 := (by injection e117)
                      have qi117 : (0 < t106.length) = True := eq_true (by omega)
                      (try rw [show ((0 : Int)).toNat = 0 from rfl] at hx117_0)
                      (try rw [Addr.add_zero'] at hx117_0)
                      replace p117 := eq_true p117
                      replace q117 := eq_true q117
                      have p118 : 0 ≤ (0 : Int) := (by omega)
                      have q118 : 0 < (t106.length : Int) := of_decide_eq_true (by first | (with_reducible assumption) | assumption)
                      obtain ⟨ad118, e118, hx118_0⟩ := Kd.at_string (Kd.R_reads' HO_6.out).2.2 0 p118 q118
                      obtain rfl : ad113 = ad118 := (by injection e118)
                      have qi118 : (0 < t106.length) = True := eq_true (by omega)
                      (try rw [show ((0 : Int)).toNat = 0 from rfl] at hx118_0)
                      (try rw [Addr.add_zero'] at hx118_0)
                      replace p118 := eq_true p118
                      replace q118 := eq_true q118
                      go_wp2
                      go_meet
                      case rel => exact ⟨_, (0), H', ⟨by have := HK1.out; have := HJ10.out; have := HJ23.out; have := HJ37.out; first | omega | exact Nat.le_refl _⟩, ⟨by (with_reducible repeat (first | apply Kd.R_alloc | apply Kd.R_drewN | apply Kd.R_drew)); exact HO_3.out⟩, ⟨by (with_reducible repeat (first | apply Kd.R_alloc | apply Kd.R_drewN | apply Kd.R_drew)); exact HO_4.out⟩, ⟨by (with_reducible repeat (first | apply Kd.R_alloc | apply Kd.R_drewN | apply Kd.R_drew)); exact HO_6.out⟩, ⟨by (with_reducible repeat (first | refine blk_drewN ?_ _ | refine blk_drew ?_ | refine blk_alloc ?_ _)); exact BK101.out⟩, ⟨by (with_reducible repeat (first | refine blk_drewN ?_ _ | refine blk_drew ?_ | refine blk_alloc ?_ _)); exact BK110.out⟩, ⟨by repeat (first | (with_reducible first | exact HB.out | apply below_alloc | apply pw_below_drewN | apply below_drew1 | refine below_set ?_ GE101.out | refine below_set ?_ GE110.out) | exact HB.out)⟩⟩
                  ·rw [if_neg c45] at H
                   exact absurd H (by simp)
             ·rw [if_neg c33] at H
              exact absurd H (by simp)
         case rest =>
          clear HC20
          try clear c1
          try clear p1
          try clear q1
          try clear hx1
          try clear qi1
          try clear c2
          try clear c2b0
          try clear c2b1
          try clear p2
          try clear c3
          try clear c4
          try clear c5
          try clear c8
          try clear c8b0
          try clear c9
          try clear c9b0
          try clear p10
          try clear q10
          try clear hx10
          try clear qi10
          try clear p11
          try clear q11
          try clear hx11
          try clear qi11
          try clear c14
          try clear c14b0
          try clear c14b1
          try clear c15
          try clear c15b0
          try clear c15b1
          try clear c18
          try clear c22
          try clear c25
          try clear c25b0
          try clear c25b1
          try clear c26
          try clear c26b0
          try clear c26b1
          try clear c27
          try clear c27b0
          try clear c27b1
          try clear c30
          try clear c31
          try clear c32
          try clear c33
          try clear c33b0
          try clear c33b1
          try clear c34
          try clear c34b0
          try clear c34b1
          try clear c36
          try clear c40
          try clear c40b0
          try clear c40b1
          try clear c41
          try clear c41b0
          try clear c41b1
          try clear c42
          try clear c43
          try clear c45
          try clear c45b0
          try clear c45b1
          try clear c46
          try clear c46b0
          try clear c46b1
          try clear c47
          try clear c49
          try clear c49b0
          try clear c49b1
          try clear c50
          try clear c52
          try clear c52b0
          try clear c52b1
          try clear c53
          try clear hcz19_0
          try clear hcz19_1
          try clear hcz23_0
          try clear hcz23_1
          try clear hcz23_2
          try clear hcz32_0
          try clear hcz32_1
          try clear hcz32_2
          try clear hcz37_0
          try clear hcz37_1
          try clear hcz37_2
          try clear hcz44_0
          try clear hcz44_1
          try clear hcz44_2
          try clear hcz48_0
          try clear hcz48_1
          try clear hcz48_2
          try clear hcz4_0
          try clear hcz4_1
          try clear hcz51_0
          try clear hcz51_1
          try clear hcz51_2
          try clear hcz54_0
          try clear hcz54_1
          try clear hcz54_2
          try clear hfz19_0
          try clear hfz19_1
          try clear hfz23_0
          try clear hfz23_1
          try clear hfz23_2
          try clear hfz32_0
          try clear hfz32_1
          try clear hfz32_2
          try clear hfz37_0
          try clear hfz37_1
          try clear hfz37_2
          try clear hfz44_0
          try clear hfz44_1
          try clear hfz44_2
          try clear hfz48_0
          try clear hfz48_1
          try clear hfz48_2
          try clear hfz4_0
          try clear hfz4_1
          try clear hfz51_0
          try clear hfz51_1
          try clear hfz51_2
          try clear hfz54_0
          try clear hfz54_1
          try clear hfz54_2
          try clear hx105_0
          try clear hx109_0
          try clear hx111_0
          try clear hx112_0
          try clear hx113_0
          try clear hx114_0
          try clear hx115_0
          try clear hx116_0
          try clear hx117_0
          try clear hx118_0
          try clear p1
          try clear p10
          try clear p105
          try clear p109
          try clear p11
          try clear p111
          try clear p112
          try clear p113
          try clear p114
          try clear p115
          try clear p116
          try clear p117
          try clear p118
          try clear p2
          try clear q1
          try clear q10
          try clear q105
          try clear q109
          try clear q11
          try clear q111
          try clear q112
          try clear q113
          try clear q114
          try clear q115
          try clear q116
          try clear q117
          try clear q118
          obtain ⟨kq, x111000_19, HA, HJ19, HO_3, HO_4, HO_6, BK101, BK110, HB⟩ := hcut
          cases kq with
          | zero => exact absurd HA.out (by simp [rParse.j4])
          | succ kj19 =>
           have H := HA.out
           clear HA
           simp only [rParse.j4] at H
           replace H := Option.bind_eq_some_iff.mp H
           obtain ⟨t119, A550, H⟩ := H
           replace H : (if t119 = true then (if 1 < (t106.length : Int) then ((PAclR.gripsackref9_Decimal.f kj19 (rdOf ByteArray.empty t106 1)).bind fun t121 => (rParse.j5 kj19 a0 t102 x4_1 x5_1 t106 x111000_19 t121 0)) else (none)) else (rParse.j5 kj19 a0 t102 x4_1 x5_1 t106 x111000_19 0 0)) = some (r1, r2) := H
           have A55 := Aside0.mk A550
           clear A550
           have HC56 := Aside0.mk H
           clear H
           have hnb57 := NB110_101.out
           have hnc57 := NB101_110.out
           have hcz58_0 : wc.cell? ⟨gb110, 0, none⟩ = some (.int .i64 x111000_19) := (blk_cell BK110.out 0).trans rfl
           have hcz58_1 : wc.cell? ⟨gb110, 1, none⟩ = some (.int .i64 0) := (blk_cell BK110.out 1).trans rfl
           have hcz58_2 : wc.cell? ⟨gb110, 2, none⟩ = some (.int .i64 0) := (blk_cell BK110.out 2).trans rfl
           have hfz58_0 := blk_frozen BK110.out 0
           have hfz58_1 := blk_frozen BK110.out 1
           have hfz58_2 := blk_frozen BK110.out 2
           go_upto_if 87 with (first | ((with_reducible refine gate_callee (f := 33) rfl ?_); refine goesL_ (some 87) rfl rfl Tryd.func33 (by kernel_rfl) rfl #[.agg #[.int .i64 x111000_19, .int .i64 0, .int .i64 0]] rfl (by (try simp only [List.map_toArray, List.map_cons, List.map_nil]); first | done | rfl | (simp only [List.length_drop, List.length_take]; rfl)) ?_; (with_reducible refine (PRefMay.gripsackref9_named.calls x111000_19 0 0 t119 _ A55.out).mono ?_); rintro e w59 ⟨rfl, hb⟩; refine ⟨_, rfl, ?_⟩; have n0_ := Aside0.mk (Kd.R_below (by (with_reducible repeat (first | apply Kd.R_alloc | apply Kd.R_drewN | apply Kd.R_drew)); exact HO_3.out) hb); have n1_ := Aside0.mk (Kd.R_below (by (with_reducible repeat (first | apply Kd.R_alloc | apply Kd.R_drewN | apply Kd.R_drew)); exact HO_4.out) hb); have n2_ := Aside0.mk (Kd.R_below (by (with_reducible repeat (first | apply Kd.R_alloc | apply Kd.R_drewN | apply Kd.R_drew)); exact HO_6.out) hb); have n3_ := Aside0.mk (blk_below (g := gb101) (o := .cells #[.slice none 0 0, .bool x102001_1] 42 (0, 0)) (by (with_reducible repeat (first | refine blk_drewN ?_ _ | refine blk_drew ?_ | refine blk_alloc ?_ _)); exact BK101.out) hb); have n4_ := Aside0.mk (blk_below (g := gb110) (o := .cells #[.int .i64 x111000_19, .int .i64 0, .int .i64 0] 27 (0, 0)) (by (with_reducible repeat (first | refine blk_drewN ?_ _ | refine blk_drew ?_ | refine blk_alloc ?_ _)); exact BK110.out) hb); have n5_ := Aside0.mk (below_step (by repeat (first | (with_reducible first | exact HB.out | apply below_alloc | apply pw_below_drewN | apply below_drew1 | refine below_set ?_ GE101.out | refine below_set ?_ GE110.out) | exact HB.out)) hb); clear HO_3; clear HO_4; clear HO_6; clear BK101; clear BK110; clear HB; have HO_3 := n0_; have HO_4 := n1_; have HO_6 := n2_; have BK101 := n3_; have BK110 := n4_; have HB := n5_; clear n0_ n1_ n2_ n3_ n4_ n5_; (try clear hb); (try clear hb2); (try clear hk); (try clear hi)))
           (try simp only [Act.put, setIfInBounds_toArray, set_cons_zero, set_cons_succ])
           go_cut [] (fun wc => ∃ (kq : Nat) (x111001_55 : Int), Aside0 (rParse.j5 kq a0 t102 x4_1 x5_1 t106 x111000_19 x111001_55 0 = some (r1, r2)) ∧ Aside0 (kq ≤ kj19) ∧ Aside0 (Kd.R Kd.string 9 wc w.heap.size (fun k_ => some k_ ≠ (v107 : Value).ownBlock) (.slice (some ad105) t102.length co12) t102) ∧ Aside0 (Kd.R k27 27 wc w.heap.size (fun k_ => k_ ≠ gb110) u4 x4_1) ∧ Aside0 (Kd.R Kd.string 9 wc w.heap.size (fun k_ => some k_ ≠ ((.slice (some ad105) t102.length co12) : Value).ownBlock) v107 t106) ∧ Aside0 (wc.heap[gb101]? = some (.cells #[(.slice none 0 0), .bool x102001_1] 42 (0, 0))) ∧ Aside0 (wc.heap[gb110]? = some (.cells #[.int .i64 x111000_19, .int .i64 x111001_55, .int .i64 0] 27 (0, 0))) ∧ Aside0 (Below w.heap.size w wc))
           case first =>
            have H := HC56.out
            clear HC56
            by_cases c60 : t119 = true
            ·subst c60
             have H1 : (if 1 < (t106.length : Int) then ((PAclR.gripsackref9_Decimal.f kj19 (rdOf ByteArray.empty t106 1)).bind fun t121 => (rParse.j5 kj19 a0 t102 x4_1 x5_1 t106 x111000_19 t121 0)) else (none)) = some (r1, r2) := by rw [if_pos rfl] at H; exact H
             clear H
             have H := H1
             clear H1
             by_cases c61 : 1 < (t106.length : Int)
             ·rw [if_pos c61] at H
              have c61b0 : decide (1 < (t106.length : Int)) = true := decide_eq_true c61
              have c61b1 : decide (1 < t106.length) = true := decide_eq_true (by omega)
              clear c61
              (first | rw [c61b0] | (simp only [i64_w, i32_w]; rw [c61b0]) | skip)
              replace H := Option.bind_eq_some_iff.mp H
              obtain ⟨t121, A620, H⟩ := H
              replace H : (rParse.j5 kj19 a0 t102 x4_1 x5_1 t106 x111000_19 t121 0) = some (r1, r2) := H
              have A62 := Aside0.mk A620
              clear A620
              have H' := Aside0.mk H
              clear H
              obtain ⟨Ao63, co63, eo63⟩ := Kd.R_slice HO_6.out
              subst eo63
              have p120 : 0 ≤ (1 : Int) := (by omega)
              have q120 : 1 < (t106.length : Int) := of_decide_eq_true (by first | (with_reducible assumption) | assumption)
              obtain ⟨ad120, e120, hx120_0⟩ := Kd.at_string (Kd.R_reads' HO_6.out).2.2 1 p120 q120
              cases e120
              (try simp only [show (1 : Int).toNat = 1 from rfl, Nat.reduceMul, Nat.reduceEqDiff, Go.Addr.add, ↓reduceIte] at hx120_0)
              have qi120 : (1 < t106.length) = True := eq_true (by omega)
              (try rw [show ((1 : Int)).toNat = 1 from rfl] at hx120_0)
              replace p120 := eq_true p120
              replace q120 := eq_true q120
              go_wp2_with (first | ((with_reducible refine gate_callee (f := 34) rfl ?_); refine goesL_ (some 91) rfl rfl Tryd.func34 (by kernel_rfl) rfl #[.string (rdOf ByteArray.empty t106 1)] rfl (by (try simp only [List.map_toArray, List.map_cons, List.map_nil]); first | done | rfl | (simp only [List.length_drop, List.length_take]; rfl)) ?_; (with_reducible refine (PAclR.gripsackref9_Decimal.calls kj19 (rdOf ByteArray.empty t106 1) t121 _ A62.out).mono ?_); rintro e w64 ⟨rfl, hb⟩; refine ⟨_, rfl, ?_⟩; have n0_ := Aside0.mk (Kd.R_below (by (with_reducible repeat (first | apply Kd.R_alloc | apply Kd.R_drewN | apply Kd.R_drew)); exact HO_3.out) hb); have n1_ := Aside0.mk (Kd.R_below (by (with_reducible repeat (first | apply Kd.R_alloc | apply Kd.R_drewN | apply Kd.R_drew)); exact HO_4.out) hb); have n2_ := Aside0.mk (Kd.R_below (by (with_reducible repeat (first | apply Kd.R_alloc | apply Kd.R_drewN | apply Kd.R_drew)); exact HO_6.out) hb); have n3_ := Aside0.mk (blk_below (g := gb101) (o := .cells #[.slice none 0 0, .bool x102001_1] 42 (0, 0)) (by (with_reducible repeat (first | refine blk_drewN ?_ _ | refine blk_drew ?_ | refine blk_alloc ?_ _)); exact BK101.out) hb); have n4_ := Aside0.mk (blk_below (g := gb110) (o := .cells #[.int .i64 x111000_19, .int .i64 0, .int .i64 0] 27 (0, 0)) (by (with_reducible repeat (first | refine blk_drewN ?_ _ | refine blk_drew ?_ | refine blk_alloc ?_ _)); exact BK110.out) hb); have n5_ := Aside0.mk (below_step (by repeat (first | (with_reducible first | exact HB.out | apply below_alloc | apply pw_below_drewN | apply below_drew1 | refine below_set ?_ GE101.out | refine below_set ?_ GE110.out) | exact HB.out)) hb); clear HO_3; clear HO_4; clear HO_6; clear BK101; clear BK110; clear HB; have HO_3 := n0_; have HO_4 := n1_; have HO_6 := n2_; have BK101 := n3_; have BK110 := n4_; have HB := n5_; clear n0_ n1_ n2_ n3_ n4_ n5_; (try clear hb); (try clear hb2); (try clear hk); (try clear hi); have hnb65 := NB110_101.out; have hnc65 := NB101_110.out; have hcz66_0 : w64.cell? ⟨gb110, 0, none⟩ = some (.int .i64 x111000_19) := (blk_cell BK110.out 0).trans rfl; have hcz66_1 : w64.cell? ⟨gb110, 1, none⟩ = some (.int .i64 0) := (blk_cell BK110.out 1).trans rfl; have hcz66_2 : w64.cell? ⟨gb110, 2, none⟩ = some (.int .i64 0) := (blk_cell BK110.out 2).trans rfl; have hfz66_0 := blk_frozen BK110.out 0; have hfz66_1 := blk_frozen BK110.out 1; have hfz66_2 := blk_frozen BK110.out 2))
              go_meet
              case rel => exact ⟨_, (t121), H', ⟨by have := HK1.out; have := HJ10.out; have := HJ19.out; first | omega | exact Nat.le_refl _⟩, ⟨by (with_reducible repeat (first | apply Kd.R_alloc | apply Kd.R_drewN | apply Kd.R_drew)); exact Kd.R_mono (Kd.R_far (p := ⟨gb110, 1, none⟩) (Kd.R_types HO_3.out BK110.out (by decide)) (fun _ hk => hk.2) (.int .i64 t121)) (fun _ hk => hk.1)⟩, ⟨by (with_reducible repeat (first | apply Kd.R_alloc | apply Kd.R_drewN | apply Kd.R_drew)); exact Kd.R_mono (Kd.R_far (p := ⟨gb110, 1, none⟩) (Kd.R_mono HO_4.out (fun k_ hk => (⟨hk, hk⟩ : _ ∧ k_ ≠ gb110))) (fun _ hk => hk.2) (.int .i64 t121)) (fun _ hk => hk.1)⟩, ⟨by (with_reducible repeat (first | apply Kd.R_alloc | apply Kd.R_drewN | apply Kd.R_drew)); exact Kd.R_mono (Kd.R_far (p := ⟨gb110, 1, none⟩) (Kd.R_types HO_6.out BK110.out (by decide)) (fun _ hk => hk.2) (.int .i64 t121)) (fun _ hk => hk.1)⟩, ⟨by (with_reducible repeat (first | refine blk_drewN ?_ _ | refine blk_drew ?_ | refine blk_alloc ?_ _)); refine blk_far ?_ NB101_110.out _; (with_reducible repeat (first | refine blk_drewN ?_ _ | refine blk_drew ?_ | refine blk_alloc ?_ _)); exact BK101.out⟩, ⟨by (with_reducible repeat (first | refine blk_drewN ?_ _ | refine blk_drew ?_ | refine blk_alloc ?_ _)); refine blk_put (cs := #[.int .i64 x111000_19, .int .i64 0, .int .i64 0]) ?_ 1 _ rfl; (with_reducible repeat (first | refine blk_drewN ?_ _ | refine blk_drew ?_ | refine blk_alloc ?_ _)); exact BK110.out⟩, ⟨by repeat (first | (with_reducible first | exact HB.out | apply below_alloc | apply pw_below_drewN | apply below_drew1 | refine below_set ?_ GE101.out | refine below_set ?_ GE110.out) | exact HB.out)⟩⟩
             ·rw [if_neg c61] at H
              exact absurd H (by simp)
            ·replace c60 := Bool.eq_false_iff.mpr c60
             subst c60
             have H1 : (rParse.j5 kj19 a0 t102 x4_1 x5_1 t106 x111000_19 0 0) = some (r1, r2) := by rw [if_neg (show ¬ (false = true) by decide)] at H; exact H
             clear H
             have H := H1
             clear H1
             have H' := Aside0.mk H
             clear H
             go_wp2
             go_meet
             case rel => exact ⟨_, (0), H', ⟨by have := HK1.out; have := HJ10.out; have := HJ19.out; first | omega | exact Nat.le_refl _⟩, ⟨by (with_reducible repeat (first | apply Kd.R_alloc | apply Kd.R_drewN | apply Kd.R_drew)); exact HO_3.out⟩, ⟨by (with_reducible repeat (first | apply Kd.R_alloc | apply Kd.R_drewN | apply Kd.R_drew)); exact HO_4.out⟩, ⟨by (with_reducible repeat (first | apply Kd.R_alloc | apply Kd.R_drewN | apply Kd.R_drew)); exact HO_6.out⟩, ⟨by (with_reducible repeat (first | refine blk_drewN ?_ _ | refine blk_drew ?_ | refine blk_alloc ?_ _)); exact BK101.out⟩, ⟨by (with_reducible repeat (first | refine blk_drewN ?_ _ | refine blk_drew ?_ | refine blk_alloc ?_ _)); exact BK110.out⟩, ⟨by repeat (first | (with_reducible first | exact HB.out | apply below_alloc | apply pw_below_drewN | apply below_drew1 | refine below_set ?_ GE101.out | refine below_set ?_ GE110.out) | exact HB.out)⟩⟩
           case rest =>
            clear HC56
            try clear c1
            try clear p1
            try clear q1
            try clear hx1
            try clear qi1
            try clear c2
            try clear c2b0
            try clear c2b1
            try clear p2
            try clear c3
            try clear c4
            try clear c5
            try clear c6
            try clear c8
            try clear c8b0
            try clear c9
            try clear c9b0
            try clear p10
            try clear q10
            try clear hx10
            try clear qi10
            try clear p11
            try clear q11
            try clear hx11
            try clear qi11
            try clear p12
            try clear q12
            try clear hx12
            try clear qi12
            try clear c14
            try clear c14b0
            try clear c14b1
            try clear c15
            try clear c15b0
            try clear c15b1
            try clear c18
            try clear c22
            try clear c25
            try clear c25b0
            try clear c25b1
            try clear c26
            try clear c26b0
            try clear c26b1
            try clear c27
            try clear c27b0
            try clear c27b1
            try clear c30
            try clear c31
            try clear c32
            try clear c33
            try clear c33b0
            try clear c33b1
            try clear c34
            try clear c34b0
            try clear c34b1
            try clear c36
            try clear c40
            try clear c40b0
            try clear c40b1
            try clear c41
            try clear c41b0
            try clear c41b1
            try clear c42
            try clear c43
            try clear c45
            try clear c45b0
            try clear c45b1
            try clear c46
            try clear c46b0
            try clear c46b1
            try clear c47
            try clear c49
            try clear c49b0
            try clear c49b1
            try clear c50
            try clear c52
            try clear c52b0
            try clear c52b1
            try clear c53
            try clear c57
            try clear c60
            try clear c61
            try clear c61b0
            try clear c61b1
            try clear c65
            try clear hcz19_0
            try clear hcz19_1
            try clear hcz23_0
            try clear hcz23_1
            try clear hcz23_2
            try clear hcz32_0
            try clear hcz32_1
            try clear hcz32_2
            try clear hcz37_0
            try clear hcz37_1
            try clear hcz37_2
            try clear hcz44_0
            try clear hcz44_1
            try clear hcz44_2
            try clear hcz48_0
            try clear hcz48_1
            try clear hcz48_2
            try clear hcz4_0
            try clear hcz4_1
            try clear hcz51_0
            try clear hcz51_1
            try clear hcz51_2
            try clear hcz54_0
            try clear hcz54_1
            try clear hcz54_2
            try clear hcz58_0
            try clear hcz58_1
            try clear hcz58_2
            try clear hcz66_0
            try clear hcz66_1
            try clear hcz66_2
            try clear hfz19_0
            try clear hfz19_1
            try clear hfz23_0
            try clear hfz23_1
            try clear hfz23_2
            try clear hfz32_0
            try clear hfz32_1
            try clear hfz32_2
            try clear hfz37_0
            try clear hfz37_1
            try clear hfz37_2
            try clear hfz44_0
            try clear hfz44_1
            try clear hfz44_2
            try clear hfz48_0
            try clear hfz48_1
            try clear hfz48_2
            try clear hfz4_0
            try clear hfz4_1
            try clear hfz51_0
            try clear hfz51_1
            try clear hfz51_2
            try clear hfz54_0
            try clear hfz54_1
            try clear hfz54_2
            try clear hfz58_0
            try clear hfz58_1
            try clear hfz58_2
            try clear hfz66_0
            try clear hfz66_1
            try clear hfz66_2
            try clear hx105_0
            try clear hx109_0
            try clear hx111_0
            try clear hx112_0
            try clear hx113_0
            try clear hx114_0
            try clear hx115_0
            try clear hx116_0
            try clear hx117_0
            try clear hx118_0
            try clear hx120_0
            try clear p1
            try clear p10
            try clear p105
            try clear p109
            try clear p11
            try clear p111
            try clear p112
            try clear p113
            try clear p114
            try clear p115
            try clear p116
            try clear p117
            try clear p118
            try clear p120
            try clear p2
            try clear q1
            try clear q10
            try clear q105
            try clear q109
            try clear q11
            try clear q111
            try clear q112
            try clear q113
            try clear q114
            try clear q115
            try clear q116
            try clear q117
            try clear q118
            try clear q120
            obtain ⟨kq, x111001_55, HA, HJ55, HO_3, HO_4, HO_6, BK101, BK110, HB⟩ := hcut
            cases kq with
            | zero => exact absurd HA.out (by simp [rParse.j5])
            | succ kj55 =>
             have H := HA.out
             clear HA
             simp only [rParse.j5] at H
             have H' := Aside0.mk H
             clear H
             go_wp2
             go_loopg [8] kj55 (fun kq v8 w' => ∃ (x8_5 : Int) (x111002_5 : Int), v8 = .int .i64 x8_5 ∧ Aside0 (rParse.l1 kq a0 t102 x4_1 x5_1 t106 x8_5 x111000_19 x111001_55 x111002_5 = some (r1, r2)) ∧ Aside0 (kq ≤ kj55) ∧ Aside0 (Kd.R Kd.string 9 w' w.heap.size (fun k_ => some k_ ≠ (v107 : Value).ownBlock) (.slice (some ad105) t102.length co12) t102) ∧ Aside0 (Kd.R k27 27 w' w.heap.size (fun k_ => k_ ≠ gb110) u4 x4_1) ∧ Aside0 (Kd.R Kd.string 9 w' w.heap.size (fun k_ => some k_ ≠ ((.slice (some ad105) t102.length co12) : Value).ownBlock) v107 t106) ∧ Aside0 (w'.heap[gb101]? = some (.cells #[(.slice none 0 0), .bool x102001_1] 42 (0, 0))) ∧ Aside0 (w'.heap[gb110]? = some (.cells #[.int .i64 x111000_19, .int .i64 x111001_55, .int .i64 x111002_5] 27 (0, 0))) ∧ Aside0 (Below w.heap.size w w'))
             case atStart => exact ⟨(0), (0), (by first | rfl | (simp; done) | (simp [*]; done)), H', ⟨Nat.le_refl _⟩, ⟨by (with_reducible repeat (first | apply Kd.R_alloc | apply Kd.R_drewN | apply Kd.R_drew)); exact HO_3.out⟩, ⟨by (with_reducible repeat (first | apply Kd.R_alloc | apply Kd.R_drewN | apply Kd.R_drew)); exact HO_4.out⟩, ⟨by (with_reducible repeat (first | apply Kd.R_alloc | apply Kd.R_drewN | apply Kd.R_drew)); exact HO_6.out⟩, ⟨by (with_reducible repeat (first | refine blk_drewN ?_ _ | refine blk_drew ?_ | refine blk_alloc ?_ _)); exact BK101.out⟩, ⟨by (with_reducible repeat (first | refine blk_drewN ?_ _ | refine blk_drew ?_ | refine blk_alloc ?_ _)); exact BK110.out⟩, ⟨by repeat (first | (with_reducible first | exact HB.out | apply below_alloc | apply pw_below_drewN | apply below_drew1 | refine below_set ?_ GE101.out | refine below_set ?_ GE110.out) | exact HB.out)⟩⟩
             case round =>
              clear H'
              try clear c1
              try clear p1
              try clear q1
              try clear hx1
              try clear qi1
              try clear c2
              try clear c2b0
              try clear c2b1
              try clear p2
              try clear c3
              try clear c4
              try clear c5
              try clear c6
              try clear c8
              try clear c8b0
              try clear c9
              try clear c9b0
              try clear p10
              try clear q10
              try clear hx10
              try clear qi10
              try clear p11
              try clear q11
              try clear hx11
              try clear qi11
              try clear p12
              try clear q12
              try clear hx12
              try clear qi12
              try clear c14
              try clear c14b0
              try clear c14b1
              try clear c15
              try clear c15b0
              try clear c15b1
              try clear c18
              try clear c22
              try clear c25
              try clear c25b0
              try clear c25b1
              try clear c26
              try clear c26b0
              try clear c26b1
              try clear c27
              try clear c27b0
              try clear c27b1
              try clear c30
              try clear c31
              try clear c32
              try clear c33
              try clear c33b0
              try clear c33b1
              try clear c34
              try clear c34b0
              try clear c34b1
              try clear c36
              try clear c40
              try clear c40b0
              try clear c40b1
              try clear c41
              try clear c41b0
              try clear c41b1
              try clear c42
              try clear c43
              try clear c45
              try clear c45b0
              try clear c45b1
              try clear c46
              try clear c46b0
              try clear c46b1
              try clear c47
              try clear c49
              try clear c49b0
              try clear c49b1
              try clear c50
              try clear c52
              try clear c52b0
              try clear c52b1
              try clear c53
              try clear c57
              try clear c60
              try clear c61
              try clear c61b0
              try clear c61b1
              try clear c65
              try clear hcz19_0
              try clear hcz19_1
              try clear hcz23_0
              try clear hcz23_1
              try clear hcz23_2
              try clear hcz32_0
              try clear hcz32_1
              try clear hcz32_2
              try clear hcz37_0
              try clear hcz37_1
              try clear hcz37_2
              try clear hcz44_0
              try clear hcz44_1
              try clear hcz44_2
              try clear hcz48_0
              try clear hcz48_1
              try clear hcz48_2
              try clear hcz4_0
              try clear hcz4_1
              try clear hcz51_0
              try clear hcz51_1
              try clear hcz51_2
              try clear hcz54_0
              try clear hcz54_1
              try clear hcz54_2
              try clear hcz58_0
              try clear hcz58_1
              try clear hcz58_2
              try clear hcz66_0
              try clear hcz66_1
              try clear hcz66_2
              try clear hfz19_0
              try clear hfz19_1
              try clear hfz23_0
              try clear hfz23_1
              try clear hfz23_2
              try clear hfz32_0
              try clear hfz32_1
              try clear hfz32_2
              try clear hfz37_0
              try clear hfz37_1
              try clear hfz37_2
              try clear hfz44_0
              try clear hfz44_1
              try clear hfz44_2
              try clear hfz48_0
              try clear hfz48_1
              try clear hfz48_2
              try clear hfz4_0
              try clear hfz4_1
              try clear hfz51_0
              try clear hfz51_1
              try clear hfz51_2
              try clear hfz54_0
              try clear hfz54_1
              try clear hfz54_2
              try clear hfz58_0
              try clear hfz58_1
              try clear hfz58_2
              try clear hfz66_0
              try clear hfz66_1
              try clear hfz66_2
              try clear hx105_0
              try clear hx109_0
              try clear hx111_0
              try clear hx112_0
              try clear hx113_0
              try clear hx114_0
              try clear hx115_0
              try clear hx116_0
              try clear hx117_0
              try clear hx118_0
              try clear hx120_0
              try clear p1
              try clear p10
              try clear p105
              try clear p109
              try clear p11
              try clear p111
              try clear p112
              try clear p113
              try clear p114
              try clear p115
              try clear p116
              try clear p117
              try clear p118
              try clear p12
              try clear p120
              try clear p2
              try clear q1
              try clear q10
              try clear q105
              try clear q109
              try clear q11
              try clear q111
              try clear q112
              try clear q113
              try clear q114
              try clear q115
              try clear q116
              try clear q117
              try clear q118
              try clear q12
              try clear q120
              obtain ⟨x8_5, x111002_5, rfl, HA, HK5, HO_3, HO_4, HO_6, BK101, BK110, HB⟩ := hrel
              cases gk with
              | zero => exact absurd HA.out (by simp [rParse.l1])
              | succ k5 =>
               have H := HA.out
               clear HA
               simp only [rParse.l1] at H
               by_cases c67 : x8_5 < 3
               ·rw [if_pos c67] at H
                have c67b0 : decide (x8_5 < 3) = true := decide_eq_true c67
                clear c67
                by_cases c68 : 2 < (t106.length : Int)
                ·rw [if_pos c68] at H
                 have c68b0 : decide (2 < (t106.length : Int)) = true := decide_eq_true c68
                 have c68b1 : decide (2 < t106.length) = true := decide_eq_true (by omega)
                 clear c68
                 by_cases c69 : 0 ≤ x8_5
                 ·rw [if_pos c69] at H
                  have c69b0 : decide (0 ≤ x8_5) = true := decide_eq_true c69
                  clear c69
                  by_cases c70 : x8_5 < ((rdOf ByteArray.empty t106 2).size : Int)
                  ·rw [if_pos c70] at H
                   have c70b0 : decide (x8_5 < ((rdOf ByteArray.empty t106 2).size : Int)) = true := decide_eq_true c70
                   clear c70
                   by_cases c72 : (bt (rdOf ByteArray.empty t106 2) x8_5) = 45
                   ·rw [if_pos c72] at H
                    have c72b0 : ((bt (rdOf ByteArray.empty t106 2) x8_5) == 45) = true := beq_iff_eq.mpr c72
                    have c72b1 : ((bt (rdOf ByteArray.empty t106 2) x8_5) != 45) = false := bne_eq_false_iff_eq.mpr c72
                    clear c72
                    have H' := Aside0.mk H
                    clear H
                    obtain ⟨Ao73, co73, eo73⟩ := Kd.R_slice HO_6.out
                    subst eo73
                    have p122 : 0 ≤ (2 : Int) := (by omega)
                    have q122 : 2 < (t106.length : Int) := of_decide_eq_true (by first | (with_reducible assumption) | assumption)
                    obtain ⟨ad122, e122, hx122_0⟩ := Kd.at_string (Kd.R_reads' HO_6.out).2.2 2 p122 q122
                    cases e122
                    (try simp only [show (2 : Int).toNat = 2 from rfl, Nat.reduceMul, Nat.reduceEqDiff, Go.Addr.add, ↓reduceIte] at hx122_0)
                    have qi122 : (2 < t106.length) = True := eq_true (by omega)
                    (try rw [show ((2 : Int)).toNat = 2 from rfl] at hx122_0)
                    replace p122 := eq_true p122
                    replace q122 := eq_true q122
                    have p71 : 0 ≤ (x8_5 : Int) := of_decide_eq_true (by first | (with_reducible assumption) | assumption)
                    have q71 : x8_5 < ((rdOf ByteArray.empty t106 2).size : Int) := of_decide_eq_true (by first | (with_reducible assumption) | assumption)
                    have hx71 := bt_at (rdOf ByteArray.empty t106 2) x8_5
                    replace p71 := eq_true p71
                    replace q71 := eq_true q71
                    go_wp2
                    go_roundg k5
                    case measure => have := HK1.out; have := HJ10.out; have := HJ19.out; have := HJ55.out; have := HK5.out; omega
                    case rel => exact ⟨(wrap64 (x8_5 + 1)), (x111002_5), (by first | rfl | (simp; done) | (simp [*]; done)), H', ⟨by have := HK1.out; have := HJ10.out; have := HJ19.out; have := HJ55.out; have := HK5.out; omega⟩, ⟨by (with_reducible repeat (first | apply Kd.R_alloc | apply Kd.R_drewN | apply Kd.R_drew)); exact HO_3.out⟩, ⟨by (with_reducible repeat (first | apply Kd.R_alloc | apply Kd.R_drewN | apply Kd.R_drew)); exact HO_4.out⟩, ⟨by (with_reducible repeat (first | apply Kd.R_alloc | apply Kd.R_drewN | apply Kd.R_drew)); exact HO_6.out⟩, ⟨by (with_reducible repeat (first | refine blk_drewN ?_ _ | refine blk_drew ?_ | refine blk_alloc ?_ _)); exact BK101.out⟩, ⟨by (with_reducible repeat (first | refine blk_drewN ?_ _ | refine blk_drew ?_ | refine blk_alloc ?_ _)); exact BK110.out⟩, ⟨by repeat (first | (with_reducible first | exact HB.out | apply below_alloc | apply pw_below_drewN | apply below_drew1 | refine below_set ?_ GE101.out | refine below_set ?_ GE110.out) | exact HB.out)⟩⟩
                   ·rw [if_neg c72] at H
                    have c72b0 : ((bt (rdOf ByteArray.empty t106 2) x8_5) == 45) = false := beq_eq_false_iff_ne.mpr c72
                    have c72b1 : ((bt (rdOf ByteArray.empty t106 2) x8_5) != 45) = true := bne_iff_ne.mpr c72
                    have c74b0 := eq_true (of_decide_eq_true (by first | (with_reducible assumption) | assumption) : 0 ≤ x8_5)
                    obtain ⟨ji75, hji75⟩ : ∃ j_ : Int, (shr .i64 4 x8_5) = j_ := ⟨_, rfl⟩
                    replace H : (rParse.l1 k5 a0 t102 x4_1 x5_1 t106 (wrap64 (x8_5 + 1)) x111000_19 x111001_55 (Go.bits .or .i64 x111002_5 (ji75))) = some (r1, r2) := by first | (rw [hji75] at H; exact H) | (simp only [hji75] at H ⊢; exact H)
                    have hji75_ : (4 / 2 ^ min x8_5.toNat 64) = ji75 := hji75
                    have hji75z : x8_5 ≤ 64 → (4 / 2 ^ x8_5.toNat) = ji75 := shr_small hji75
                    have H' := Aside0.mk H
                    clear H
                    obtain ⟨Ao76, co76, eo76⟩ := Kd.R_slice HO_6.out
                    subst eo76
                    have p122 : 0 ≤ (2 : Int) := (by omega)
                    have q122 : 2 < (t106.length : Int) := of_decide_eq_true (by first | (with_reducible assumption) | assumption)
                    obtain ⟨ad122, e122, hx122_0⟩ := Kd.at_string (Kd.R_reads' HO_6.out).2.2 2 p122 q122
                    cases e122
                    (try simp only [show (2 : Int).toNat = 2 from rfl, Nat.reduceMul, Nat.reduceEqDiff, Go.Addr.add, ↓reduceIte] at hx122_0)
                    have qi122 : (2 < t106.length) = True := eq_true (by omega)
                    (try rw [show ((2 : Int)).toNat = 2 from rfl] at hx122_0)
                    replace p122 := eq_true p122
                    replace q122 := eq_true q122
                    have p71 : 0 ≤ (x8_5 : Int) := of_decide_eq_true (by first | (with_reducible assumption) | assumption)
                    have q71 : x8_5 < ((rdOf ByteArray.empty t106 2).size : Int) := of_decide_eq_true (by first | (with_reducible assumption) | assumption)
                    have hx71 := bt_at (rdOf ByteArray.empty t106 2) x8_5
                    replace p71 := eq_true p71
                    replace q71 := eq_true q71
                    try go_wp2
                    have n0_ := Aside0.mk (Kd.R_drew HO_3.out)
                    have n1_ := Aside0.mk (Kd.R_drew HO_4.out)
                    have n2_ := Aside0.mk (Kd.R_drew HO_6.out)
                    have n3_ := Aside0.mk (blk_drew BK101.out)
                    have n4_ := Aside0.mk (blk_drew BK110.out)
                    have n5_ := Aside0.mk (below_drew1 HB.out)
                    clear HO_3
                    clear HO_4
                    clear HO_6
                    clear BK101
                    clear BK110
                    clear HB
                    have HO_3 := n0_
                    have HO_4 := n1_
                    have HO_6 := n2_
                    have BK101 := n3_
                    have BK110 := n4_
                    have HB := n5_
                    clear n0_ n1_ n2_ n3_ n4_ n5_
                    refine start_ (n := 7) (S := fun w' => w'.cell? ⟨gb110, 0, none⟩ = some (.int .i64 x111000_19) ∧ w'.cell? ⟨gb110, 1, none⟩ = some (.int .i64 x111001_55) ∧ w'.cell? ⟨gb110, 2, none⟩ = some (.int .i64 x111002_5)) (ds := [6]) #[false, false, false, false, false, false, false] (by kernel_rfl) rfl rfl ⟨(blk_cell BK110.out 0).trans rfl, (blk_cell BK110.out 1).trans rfl, (blk_cell BK110.out 2).trans rfl⟩ (fun hHeld => ?_)
                    generalize wr.drew = w77 at HO_3 HO_4 HO_6 BK101 BK110 HB hHeld ⊢
                    refine pure_ (i := 0) (N := some 103) (v := ?_) (a' := ?_) #[true, false, false, false, false, false, false] rfl rfl (by kernel_rfl) (fun _ _ _ h => h) (Or.inl ⟨by rfl, ?_⟩) ?_ ?_
                    rotate_left
                    ·intro w'
                     go_simp
                     with_reducible rfl
                    rotate_left
                    ·simp only [Act.put, setIfInBounds_toArray, set_cons_zero, set_cons_succ, i64_w, i32_w]
                     rfl
                    refine pure_ (i := 2) (N := some 105) (v := ?_) (a' := ?_) #[true, false, true, false, false, false, false] rfl rfl (by kernel_rfl) (fun _ _ _ h => h) (Or.inl ⟨by rfl, ?_⟩) ?_ ?_
                    rotate_left
                    ·intro w'
                     go_simp
                     with_reducible rfl
                    rotate_left
                    ·simp only [Act.put, setIfInBounds_toArray, set_cons_zero, set_cons_succ, i64_w, i32_w]
                     rfl
                    refine pure_ (i := 3) (N := some 106) (v := ?_) (a' := ?_) #[true, false, true, true, false, false, false] rfl rfl (by kernel_rfl) (fun _ _ _ h => h) (Or.inl ⟨by rfl, ?_⟩) ?_ ?_
                    rotate_left
                    ·intro w'
                     go_simp
                     with_reducible rfl
                    rotate_left
                    ·simp only [Act.put, setIfInBounds_toArray, set_cons_zero, set_cons_succ, i64_w, i32_w]
                     rfl
                    refine take_ (i := 1) (N := some 104) (v := ?_) (a' := ?_) #[true, true, true, true, false, false, false] rfl rfl (by kernel_rfl) (fun _ _ _ h => h) (Or.inl ⟨by rfl, ?_⟩) hHeld ?_ ?_
                    rotate_left
                    ·rintro w' ⟨s0, s1, s2⟩
                     go_simp
                     with_reducible rfl
                    rotate_left
                    ·simp only [Act.put, setIfInBounds_toArray, set_cons_zero, set_cons_succ, i64_w, i32_w]
                     rfl
                    refine pure_ (i := 4) (N := some 107) (v := ?_) (a' := ?_) #[true, true, true, true, true, false, false] rfl rfl (by kernel_rfl) (fun _ _ _ h => h) (Or.inl ⟨by rfl, ?_⟩) ?_ ?_
                    rotate_left
                    ·intro w'
                     go_simp
                     with_reducible rfl
                    rotate_left
                    ·simp only [Act.put, setIfInBounds_toArray, set_cons_zero, set_cons_succ, i64_w, i32_w]
                     rfl
                    refine pure_ (i := 5) (N := some 108) (v := ?_) (a' := ?_) #[true, true, true, true, true, true, false] rfl rfl (by kernel_rfl) (fun _ _ _ h => h) (Or.inl ⟨by rfl, ?_⟩) ?_ ?_
                    rotate_left
                    ·intro w'
                     go_simp
                     with_reducible rfl
                    rotate_left
                    ·simp only [Act.put, setIfInBounds_toArray, set_cons_zero, set_cons_succ, i64_w, i32_w]
                     rfl
                    refine last_ (i := 6) (N := none) #[true, true, true, true, true, true, true] rfl rfl (by kernel_rfl) (by decide) (fun K hK => ?_)
                    have hs78 : w77.cell? ⟨gb110, 2, none⟩ = some (.int .i64 x111002_5) := (blk_cell BK110.out 2).trans rfl
                    have hfs78 := blk_frozen BK110.out 2
                    have hns78_0 := NB101_110.out
                    have hms78_0 := NB110_101.out
                    refine skip_ (w1 := ?_) (by rfl) rfl ?_ ?_
                    rotate_left
                    ·go_simp
                     rfl
                    refine hK.out _ _ ?_
                    clear hK K
                    refine done_ (by kernel_rfl) ?_
                    try go_wp2
                    go_roundg k5
                    case measure => have := HK1.out; have := HJ10.out; have := HJ19.out; have := HJ55.out; have := HK5.out; omega
                    case rel => exact ⟨(wrap64 (x8_5 + 1)), (Go.bits .or .i64 x111002_5 (ji75)), (by first | rfl | (simp; done) | (simp [*]; done)), H', ⟨by have := HK1.out; have := HJ10.out; have := HJ19.out; have := HJ55.out; have := HK5.out; omega⟩, ⟨by (with_reducible repeat (first | apply Kd.R_alloc | apply Kd.R_drewN | apply Kd.R_drew)); exact Kd.R_mono (Kd.R_far (p := ⟨gb110, 2, none⟩) (Kd.R_types HO_3.out BK110.out (by decide)) (fun _ hk => hk.2) (.int .i64 (Go.bits .or .i64 x111002_5 (ji75)))) (fun _ hk => hk.1)⟩, ⟨by (with_reducible repeat (first | apply Kd.R_alloc | apply Kd.R_drewN | apply Kd.R_drew)); exact Kd.R_mono (Kd.R_far (p := ⟨gb110, 2, none⟩) (Kd.R_mono HO_4.out (fun k_ hk => (⟨hk, hk⟩ : _ ∧ k_ ≠ gb110))) (fun _ hk => hk.2) (.int .i64 (Go.bits .or .i64 x111002_5 (ji75)))) (fun _ hk => hk.1)⟩, ⟨by (with_reducible repeat (first | apply Kd.R_alloc | apply Kd.R_drewN | apply Kd.R_drew)); exact Kd.R_mono (Kd.R_far (p := ⟨gb110, 2, none⟩) (Kd.R_types HO_6.out BK110.out (by decide)) (fun _ hk => hk.2) (.int .i64 (Go.bits .or .i64 x111002_5 (ji75)))) (fun _ hk => hk.1)⟩, ⟨by (with_reducible repeat (first | refine blk_drewN ?_ _ | refine blk_drew ?_ | refine blk_alloc ?_ _)); refine blk_far ?_ NB101_110.out _; (with_reducible repeat (first | refine blk_drewN ?_ _ | refine blk_drew ?_ | refine blk_alloc ?_ _)); exact BK101.out⟩, ⟨by (with_reducible repeat (first | refine blk_drewN ?_ _ | refine blk_drew ?_ | refine blk_alloc ?_ _)); refine blk_put (cs := #[.int .i64 x111000_19, .int .i64 x111001_55, .int .i64 x111002_5]) ?_ 2 _ rfl; (with_reducible repeat (first | refine blk_drewN ?_ _ | refine blk_drew ?_ | refine blk_alloc ?_ _)); exact BK110.out⟩, ⟨by repeat (first | (with_reducible first | exact HB.out | apply below_alloc | apply pw_below_drewN | apply below_drew1 | refine below_set ?_ GE101.out | refine below_set ?_ GE110.out) | exact HB.out)⟩⟩
                  ·rw [if_neg c70] at H
                   exact absurd H (by simp)
                 ·rw [if_neg c69] at H
                  exact absurd H (by simp)
                ·rw [if_neg c68] at H
                 exact absurd H (by simp)
               ·rw [if_neg c67] at H
                have c67b0 : decide (x8_5 < 3) = false := decide_eq_false c67
                clear c67
                by_cases c79 : x4_1.length < 5864062014805
                ·rw [if_pos c79] at H
                 have LMc79 := Aside0.mk c79
                 clear c79
                 obtain ⟨y123, hy123⟩ : ∃ y_ : List (S27), y_ = (x4_1 ++ [(⟨x111000_19, x111001_55, x111002_5⟩ : S27)]) := ⟨_, rfl⟩
                 replace H : (rParse.l0 k5 a0 t102 y123 (wrap64 (x5_1 + 1))) = some (r1, r2) := by first | (rw [hy123]; with_reducible exact H) | (have H2_ := (Option.bind_some _ _).symm.trans H; rw [hy123]; with_reducible exact H2_) | (have H2_ := (Option.bind_some _ _).symm.trans H; with_reducible exact H2_) | with_reducible exact H | (rw [hy123]; exact H) | exact H
                 have Ny123 := Aside0.mk hy123
                 clear hy123
                 have H' := Aside0.mk H
                 clear H
                 have hnb80 := NB110_101.out
                 have hnc80 := NB101_110.out
                 have hcz81_0 : wr.cell? ⟨gb110, 0, none⟩ = some (.int .i64 x111000_19) := (blk_cell BK110.out 0).trans rfl
                 have hcz81_1 : wr.cell? ⟨gb110, 1, none⟩ = some (.int .i64 x111001_55) := (blk_cell BK110.out 1).trans rfl
                 have hcz81_2 : wr.cell? ⟨gb110, 2, none⟩ = some (.int .i64 x111002_5) := (blk_cell BK110.out 2).trans rfl
                 have hfz81_0 := blk_frozen BK110.out 0
                 have hfz81_1 := blk_frozen BK110.out 1
                 have hfz81_2 := blk_frozen BK110.out 2
                 go_wp2_with (first | ((with_reducible refine gate_builtin (b := .append) (xs := #[.tmp 109, .tmp 111]) rfl ?_); (try (refine gate_guard (by rfl) ?_; dsimp only)); at_builtin; refine Kd.R_append k27 (w0 := w) w.heap.size rfl (.tmp 109) (.tmp 111) 24 27 (.agg #[(.int .i64 0), (.int .i64 0), (.int .i64 0)]) 24 rfl Tryd.underlying24 info27 rfl (by decide) (by omega) u4 x4_1 (⟨x111000_19, x111001_55, x111002_5⟩ : S27) [.int .i64 x111000_19, .int .i64 x111001_55, .int .i64 x111002_5] (fun k_ => k_ ≠ gb110) (fun _ => False) rfl rfl ?aP (fun _ hk => hk.elim) ?aF ?aO ?aB ?aS ?aL ?_; (case aP => exact k27_mkM _ _ _ (⟨x111000_19, x111001_55, x111002_5⟩ : S27)); (case aB => exact (by repeat (first | (with_reducible first | exact HB.out | apply below_alloc | apply pw_below_drewN | apply below_drew1 | refine below_set ?_ GE101.out | refine below_set ?_ GE110.out) | exact HB.out))); (case aF => exact (fun k_ hk => Kd.freshB (g := gb110) (o := .cells #[.int .i64 x111000_19, .int .i64 x111001_55, .int .i64 x111002_5] 27 (0, 0)) (by (with_reducible repeat (first | refine blk_drewN ?_ _ | refine blk_drew ?_ | refine blk_alloc ?_ _)); exact BK110.out) k_ hk)); (case aO => exact (by (with_reducible repeat (first | apply Kd.R_alloc | apply Kd.R_drewN | apply Kd.R_drew)); exact HO_4.out)); (case aS => exact (below_size (by repeat (first | (with_reducible first | exact HB.out | apply below_alloc | apply pw_below_drewN | apply below_drew1 | refine below_set ?_ GE101.out | refine below_set ?_ GE110.out) | exact HB.out)))); (case aL => have := LMc79.out; omega); intro v124 w82 ho hb hg hat; rw [← Ny123.out] at ho; have n0_ := Aside0.mk (Kd.R_over' (by (with_reducible repeat (first | apply Kd.R_alloc | apply Kd.R_drewN | apply Kd.R_drew)); exact HO_3.out) (Kd.R_typed (by (with_reducible repeat (first | apply Kd.R_alloc | apply Kd.R_drewN | apply Kd.R_drew)); exact HO_4.out)) (by decide) hg); have n1_ := Aside0.mk (Kd.R_over' (by (with_reducible repeat (first | apply Kd.R_alloc | apply Kd.R_drewN | apply Kd.R_drew)); exact HO_6.out) (Kd.R_typed (by (with_reducible repeat (first | apply Kd.R_alloc | apply Kd.R_drewN | apply Kd.R_drew)); exact HO_4.out)) (by decide) hg); have n2_ := Aside0.mk (blk_grown (g := gb101) (o := .cells #[.slice none 0 0, .bool x102001_1] 42 (0, 0)) (by (with_reducible repeat (first | refine blk_drewN ?_ _ | refine blk_drew ?_ | refine blk_alloc ?_ _)); exact BK101.out) hg (Kd.R_ne HO_4.out BK101.out (by decide))); have n3_ := Aside0.mk (blk_grown (g := gb110) (o := .cells #[.int .i64 x111000_19, .int .i64 x111001_55, .int .i64 x111002_5] 27 (0, 0)) (by (with_reducible repeat (first | refine blk_drewN ?_ _ | refine blk_drew ?_ | refine blk_alloc ?_ _)); exact BK110.out) hg (Kd.R_away HO_4.out (fun _ hk => hk))); have n4_ := Aside0.mk (hb); have n5_ := Aside0.mk (ho); clear HO_3; clear HO_6; clear BK101; clear BK110; clear HB; clear HO_4; have HO_3 := n0_; have HO_6 := n1_; have BK101 := n2_; have BK110 := n3_; have HB := n4_; have HO125 := n5_; clear n0_ n1_ n2_ n3_ n4_ n5_; clear ho hb hg hat))
                 go_roundg k5
                 case measure => have := HK1.out; have := HJ10.out; have := HJ19.out; have := HJ55.out; have := HK5.out; omega
                 case rel => exact ⟨(y123), (wrap64 (x5_1 + 1)), (x102001_1), (by first | rfl | (simp; done) | (simp [*]; done)), H', ⟨by have := HK1.out; have := HJ10.out; have := HJ19.out; have := HJ55.out; have := HK5.out; omega⟩, ⟨by (with_reducible repeat (first | apply Kd.R_alloc | apply Kd.R_drewN | apply Kd.R_drew)); exact Kd.R_mono HO_3.out (fun _ hk => trivial)⟩, ⟨by (with_reducible repeat (first | apply Kd.R_alloc | apply Kd.R_drewN | apply Kd.R_drew)); exact Kd.R_mono HO125.out (fun _ hk => trivial)⟩, ⟨by (with_reducible repeat (first | refine blk_drewN ?_ _ | refine blk_drew ?_ | refine blk_alloc ?_ _)); exact BK101.out⟩, ⟨by repeat (first | (with_reducible first | exact HB.out | apply below_alloc | apply pw_below_drewN | apply below_drew1 | refine below_set ?_ GE101.out | refine below_set ?_ GE110.out) | exact HB.out)⟩⟩
                ·rw [if_neg c79] at H
                 exact absurd H (by simp)
     ·rw [if_neg c9] at H
      exact absurd H (by simp)
    ·rw [if_neg c8] at H
     have c8b0 : decide (x5_1 < (t102.length : Int)) = false := decide_eq_false c8
     clear c8
     replace H := Option.bind_eq_some_iff.mp H
     obtain ⟨t126, A830, H⟩ := H
     replace H : (if t126 = true then ((PRefText.gripsackref9_TextAcl.f k1 x4_1).bind fun t127 => (if t127.toList = a0.toList then (some (x4_1, true)) else (some (([] : List (S27)), false)))) else (some (([] : List (S27)), false))) = some (r1, r2) := H
     have A83 := Aside0.mk A830
     clear A830
     by_cases c84 : t126 = true
     ·subst c84
      have H1 : ((PRefText.gripsackref9_TextAcl.f k1 x4_1).bind fun t127 => (if t127.toList = a0.toList then (some (x4_1, true)) else (some (([] : List (S27)), false)))) = some (r1, r2) := by rw [if_pos rfl] at H; exact H
      clear H
      have H := H1
      clear H1
      replace H := Option.bind_eq_some_iff.mp H
      obtain ⟨t127, A850, H⟩ := H
      replace H : (if t127.toList = a0.toList then (some (x4_1, true)) else (some (([] : List (S27)), false))) = some (r1, r2) := H
      have A85 := Aside0.mk A850
      clear A850
      by_cases c86 : t127.toList = a0.toList
      ·rw [if_pos c86] at H
       have c86b0 : (t127.toList == a0.toList) = true := beq_iff_eq.mpr c86
       have c86b1 : (t127.toList != a0.toList) = false := bne_eq_false_iff_eq.mpr c86
       clear c86
       simp only [Option.some.injEq, Prod.mk.injEq] at H
       obtain ⟨rfl, rfl⟩ := H
       obtain ⟨Ao87, co87, eo87⟩ := Kd.R_slice HO_3.out
       subst eo87
       obtain ⟨Ao88, co88, eo88⟩ := Kd.R_slice HO_4.out
       subst eo88
       go_wp2_with (first | ((with_reducible refine gate_callee (f := 16) rfl ?_); refine goesL_ (some 114) rfl rfl Tryd.func16 (by kernel_rfl) rfl #[.slice Ao88 x4_1.length co88] rfl (by (try simp only [List.map_toArray, List.map_cons, List.map_nil]); first | done | rfl | (simp only [List.length_drop, List.length_take]; rfl)) ?_; (with_reducible refine (PRefMay.rMay.calls k1 _ _ x4_1 true _ ?side1 ?side2 A83.out).mono ?_); (case side1 => repeat (first | exact (Kd.R_reads' HO_4.out).2.2 | (with_reducible refine Kd.C_alloc ?_ _) | (with_reducible refine Kd.C_drewN ?_ _) | (with_reducible refine Kd.C_drew ?_))); (case side2 => exact (Kd.R_reads' HO_4.out).2.1); rintro e w89 ⟨rfl, hb⟩; refine ⟨_, rfl, ?_⟩; have n0_ := Aside0.mk (Kd.R_below (by (with_reducible repeat (first | apply Kd.R_alloc | apply Kd.R_drewN | apply Kd.R_drew)); exact HO_3.out) hb); have n1_ := Aside0.mk (Kd.R_below (by (with_reducible repeat (first | apply Kd.R_alloc | apply Kd.R_drewN | apply Kd.R_drew)); exact HO_4.out) hb); have n2_ := Aside0.mk (blk_below (g := gb101) (o := .cells #[.slice none 0 0, .bool x102001_1] 42 (0, 0)) (by (with_reducible repeat (first | refine blk_drewN ?_ _ | refine blk_drew ?_ | refine blk_alloc ?_ _)); exact BK101.out) hb); have n3_ := Aside0.mk (below_step (by repeat (first | (with_reducible first | exact HB.out | apply below_alloc | apply pw_below_drewN | apply below_drew1 | refine below_set ?_ GE101.out) | exact HB.out)) hb); clear HO_3; clear HO_4; clear BK101; clear HB; have HO_3 := n0_; have HO_4 := n1_; have BK101 := n2_; have HB := n3_; clear n0_ n1_ n2_ n3_; (try clear hb); (try clear hb2); (try clear hk); (try clear hi)) | (go_at_call 20; (with_reducible refine (PRefText.gripsackref9_TextAcl.calls k1 _ _ x4_1 t127 _ ?side1 ?side2 A85.out).mono ?_); (case side1 => repeat (first | exact (Kd.R_reads' HO_4.out).2.2 | (with_reducible refine Kd.C_alloc ?_ _) | (with_reducible refine Kd.C_drewN ?_ _) | (with_reducible refine Kd.C_drew ?_))); (case side2 => exact (Kd.R_reads' HO_4.out).2.1); rintro e w90 ⟨rfl, hb⟩; have n0_ := Aside0.mk (Kd.R_below (by (with_reducible repeat (first | apply Kd.R_alloc | apply Kd.R_drewN | apply Kd.R_drew)); exact HO_3.out) hb); have n1_ := Aside0.mk (Kd.R_below (by (with_reducible repeat (first | apply Kd.R_alloc | apply Kd.R_drewN | apply Kd.R_drew)); exact HO_4.out) hb); have n2_ := Aside0.mk (blk_below (g := gb101) (o := .cells #[.slice none 0 0, .bool x102001_1] 42 (0, 0)) (by (with_reducible repeat (first | refine blk_drewN ?_ _ | refine blk_drew ?_ | refine blk_alloc ?_ _)); exact BK101.out) hb); have n3_ := Aside0.mk (below_step (by repeat (first | (with_reducible first | exact HB.out | apply below_alloc | apply pw_below_drewN | apply below_drew1 | refine below_set ?_ GE101.out) | exact HB.out)) hb); clear HO_3; clear HO_4; clear BK101; clear HB; have HO_3 := n0_; have HO_4 := n1_; have BK101 := n2_; have HB := n3_; clear n0_ n1_ n2_ n3_; (try clear hb); (try clear hb2); (try clear hk); (try clear hi); have hcz91_0 : w90.cell? ⟨gb101, 0, none⟩ = some (.slice none 0 0) := (blk_cell BK101.out 0).trans rfl; have hcz91_1 : w90.cell? ⟨gb101, 1, none⟩ = some (.bool x102001_1) := (blk_cell BK101.out 1).trans rfl; have hfz91_0 := blk_frozen BK101.out 0; have hfz91_1 := blk_frozen BK101.out 1))
       refine bodyPost_ret (results_cell_row rfl _ _ gb101 42 #[.slice Ao88 x4_1.length co88, .bool true] (0, 0) _ rfl (by (with_reducible repeat (first | refine blk_drewN ?_ _ | refine blk_drew ?_ | refine blk_alloc ?_ _)); refine blk_put (cs := #[.slice Ao88 x4_1.length co88, .bool x102001_1]) ?_ 1 _ rfl; (with_reducible repeat (first | refine blk_drewN ?_ _ | refine blk_drew ?_ | refine blk_alloc ?_ _)); refine blk_put (cs := #[.slice none 0 0, .bool x102001_1]) ?_ 0 _ rfl; (with_reducible repeat (first | refine blk_drewN ?_ _ | refine blk_drew ?_ | refine blk_alloc ?_ _)); exact BK101.out) Tryd.underlying42 rfl (by kernel_rfl)) rfl ?_
       exact ⟨_, by first | rfl | (simp [errW_none, errW_some] <;> rfl) | (simp [*, errW_none, errW_some] <;> rfl), by (with_reducible repeat (first | apply Kd.R_alloc | apply Kd.R_drewN | apply Kd.R_drew)); exact Kd.R_mono (Kd.R_far (p := ⟨gb101, 1, none⟩) (Kd.R_far (p := ⟨gb101, 0, none⟩) (Kd.R_types HO_4.out BK101.out (by decide)) (fun _ hk => hk.2) (.slice Ao88 x4_1.length co88)) (fun _ hk => hk.2) (.bool true)) (fun _ hk => trivial), by repeat (first | (with_reducible first | exact HB.out | apply below_alloc | apply pw_below_drewN | apply below_drew1 | refine below_set ?_ GE101.out) | exact HB.out)⟩
      ·rw [if_neg c86] at H
       have c86b0 : (t127.toList == a0.toList) = false := beq_eq_false_iff_ne.mpr c86
       have c86b1 : (t127.toList != a0.toList) = true := bne_iff_ne.mpr c86
       simp only [Option.some.injEq, Prod.mk.injEq] at H
       obtain ⟨rfl, rfl⟩ := H
       obtain ⟨Ao92, co92, eo92⟩ := Kd.R_slice HO_3.out
       subst eo92
       obtain ⟨Ao93, co93, eo93⟩ := Kd.R_slice HO_4.out
       subst eo93
       go_wp2_with (first | ((with_reducible refine gate_callee (f := 16) rfl ?_); refine goesL_ (some 114) rfl rfl Tryd.func16 (by kernel_rfl) rfl #[.slice Ao93 x4_1.length co93] rfl (by (try simp only [List.map_toArray, List.map_cons, List.map_nil]); first | done | rfl | (simp only [List.length_drop, List.length_take]; rfl)) ?_; (with_reducible refine (PRefMay.rMay.calls k1 _ _ x4_1 true _ ?side1 ?side2 A83.out).mono ?_); (case side1 => repeat (first | exact (Kd.R_reads' HO_4.out).2.2 | (with_reducible refine Kd.C_alloc ?_ _) | (with_reducible refine Kd.C_drewN ?_ _) | (with_reducible refine Kd.C_drew ?_))); (case side2 => exact (Kd.R_reads' HO_4.out).2.1); rintro e w94 ⟨rfl, hb⟩; refine ⟨_, rfl, ?_⟩; have n0_ := Aside0.mk (Kd.R_below (by (with_reducible repeat (first | apply Kd.R_alloc | apply Kd.R_drewN | apply Kd.R_drew)); exact HO_3.out) hb); have n1_ := Aside0.mk (Kd.R_below (by (with_reducible repeat (first | apply Kd.R_alloc | apply Kd.R_drewN | apply Kd.R_drew)); exact HO_4.out) hb); have n2_ := Aside0.mk (blk_below (g := gb101) (o := .cells #[.slice none 0 0, .bool x102001_1] 42 (0, 0)) (by (with_reducible repeat (first | refine blk_drewN ?_ _ | refine blk_drew ?_ | refine blk_alloc ?_ _)); exact BK101.out) hb); have n3_ := Aside0.mk (below_step (by repeat (first | (with_reducible first | exact HB.out | apply below_alloc | apply pw_below_drewN | apply below_drew1 | refine below_set ?_ GE101.out) | exact HB.out)) hb); clear HO_3; clear HO_4; clear BK101; clear HB; have HO_3 := n0_; have HO_4 := n1_; have BK101 := n2_; have HB := n3_; clear n0_ n1_ n2_ n3_; (try clear hb); (try clear hb2); (try clear hk); (try clear hi)) | (go_at_call 20; (with_reducible refine (PRefText.gripsackref9_TextAcl.calls k1 _ _ x4_1 t127 _ ?side1 ?side2 A85.out).mono ?_); (case side1 => repeat (first | exact (Kd.R_reads' HO_4.out).2.2 | (with_reducible refine Kd.C_alloc ?_ _) | (with_reducible refine Kd.C_drewN ?_ _) | (with_reducible refine Kd.C_drew ?_))); (case side2 => exact (Kd.R_reads' HO_4.out).2.1); rintro e w95 ⟨rfl, hb⟩; have n0_ := Aside0.mk (Kd.R_below (by (with_reducible repeat (first | apply Kd.R_alloc | apply Kd.R_drewN | apply Kd.R_drew)); exact HO_3.out) hb); have n1_ := Aside0.mk (Kd.R_below (by (with_reducible repeat (first | apply Kd.R_alloc | apply Kd.R_drewN | apply Kd.R_drew)); exact HO_4.out) hb); have n2_ := Aside0.mk (blk_below (g := gb101) (o := .cells #[.slice none 0 0, .bool x102001_1] 42 (0, 0)) (by (with_reducible repeat (first | refine blk_drewN ?_ _ | refine blk_drew ?_ | refine blk_alloc ?_ _)); exact BK101.out) hb); have n3_ := Aside0.mk (below_step (by repeat (first | (with_reducible first | exact HB.out | apply below_alloc | apply pw_below_drewN | apply below_drew1 | refine below_set ?_ GE101.out) | exact HB.out)) hb); clear HO_3; clear HO_4; clear BK101; clear HB; have HO_3 := n0_; have HO_4 := n1_; have BK101 := n2_; have HB := n3_; clear n0_ n1_ n2_ n3_; (try clear hb); (try clear hb2); (try clear hk); (try clear hi); have hcz96_0 : w95.cell? ⟨gb101, 0, none⟩ = some (.slice none 0 0) := (blk_cell BK101.out 0).trans rfl; have hcz96_1 : w95.cell? ⟨gb101, 1, none⟩ = some (.bool x102001_1) := (blk_cell BK101.out 1).trans rfl; have hfz96_0 := blk_frozen BK101.out 0; have hfz96_1 := blk_frozen BK101.out 1))
       refine bodyPost_ret (results_cell_row rfl _ _ gb101 42 #[.slice none 0 0, .bool false] (0, 0) _ rfl (by (with_reducible repeat (first | refine blk_drewN ?_ _ | refine blk_drew ?_ | refine blk_alloc ?_ _)); refine blk_put (cs := #[.slice none 0 0, .bool x102001_1]) ?_ 1 _ rfl; (with_reducible repeat (first | refine blk_drewN ?_ _ | refine blk_drew ?_ | refine blk_alloc ?_ _)); refine blk_put (cs := #[.slice none 0 0, .bool x102001_1]) ?_ 0 _ rfl; (with_reducible repeat (first | refine blk_drewN ?_ _ | refine blk_drew ?_ | refine blk_alloc ?_ _)); exact BK101.out) Tryd.underlying42 rfl (by kernel_rfl)) rfl ?_
       exact ⟨_, by first | rfl | (simp [errW_none, errW_some] <;> rfl) | (simp [*, errW_none, errW_some] <;> rfl), by first | exact Kd.R_nil _ _ _ _ _ | exact Kd.N_nil _ _ _ _ _ | exact Kd.V_nil _ _ _ _ _ | exact Kd.Q_nil _ _ _ _ _ | exact Kd.S_nil _ _ _ _ _, by repeat (first | (with_reducible first | exact HB.out | apply below_alloc | apply pw_below_drewN | apply below_drew1 | refine below_set ?_ GE101.out) | exact HB.out)⟩
     ·replace c84 := Bool.eq_false_iff.mpr c84
      subst c84
      have H1 : (some (([] : List (S27)), false)) = some (r1, r2) := by rw [if_neg (show ¬ (false = true) by decide)] at H; exact H
      clear H
      have H := H1
      clear H1
      simp only [Option.some.injEq, Prod.mk.injEq] at H
      obtain ⟨rfl, rfl⟩ := H
      obtain ⟨Ao97, co97, eo97⟩ := Kd.R_slice HO_3.out
      subst eo97
      obtain ⟨Ao98, co98, eo98⟩ := Kd.R_slice HO_4.out
      subst eo98
      go_wp2_with (first | ((with_reducible refine gate_callee (f := 16) rfl ?_); refine goesL_ (some 114) rfl rfl Tryd.func16 (by kernel_rfl) rfl #[.slice Ao98 x4_1.length co98] rfl (by (try simp only [List.map_toArray, List.map_cons, List.map_nil]); first | done | rfl | (simp only [List.length_drop, List.length_take]; rfl)) ?_; (with_reducible refine (PRefMay.rMay.calls k1 _ _ x4_1 false _ ?side1 ?side2 A83.out).mono ?_); (case side1 => repeat (first | exact (Kd.R_reads' HO_4.out).2.2 | (with_reducible refine Kd.C_alloc ?_ _) | (with_reducible refine Kd.C_drewN ?_ _) | (with_reducible refine Kd.C_drew ?_))); (case side2 => exact (Kd.R_reads' HO_4.out).2.1); rintro e w99 ⟨rfl, hb⟩; refine ⟨_, rfl, ?_⟩; have n0_ := Aside0.mk (Kd.R_below (by (with_reducible repeat (first | apply Kd.R_alloc | apply Kd.R_drewN | apply Kd.R_drew)); exact HO_3.out) hb); have n1_ := Aside0.mk (Kd.R_below (by (with_reducible repeat (first | apply Kd.R_alloc | apply Kd.R_drewN | apply Kd.R_drew)); exact HO_4.out) hb); have n2_ := Aside0.mk (blk_below (g := gb101) (o := .cells #[.slice none 0 0, .bool x102001_1] 42 (0, 0)) (by (with_reducible repeat (first | refine blk_drewN ?_ _ | refine blk_drew ?_ | refine blk_alloc ?_ _)); exact BK101.out) hb); have n3_ := Aside0.mk (below_step (by repeat (first | (with_reducible first | exact HB.out | apply below_alloc | apply pw_below_drewN | apply below_drew1 | refine below_set ?_ GE101.out) | exact HB.out)) hb); clear HO_3; clear HO_4; clear BK101; clear HB; have HO_3 := n0_; have HO_4 := n1_; have BK101 := n2_; have HB := n3_; clear n0_ n1_ n2_ n3_; (try clear hb); (try clear hb2); (try clear hk); (try clear hi); have hcz100_0 : w99.cell? ⟨gb101, 0, none⟩ = some (.slice none 0 0) := (blk_cell BK101.out 0).trans rfl; have hcz100_1 : w99.cell? ⟨gb101, 1, none⟩ = some (.bool x102001_1) := (blk_cell BK101.out 1).trans rfl; have hfz100_0 := blk_frozen BK101.out 0; have hfz100_1 := blk_frozen BK101.out 1))
      refine bodyPost_ret (results_cell_row rfl _ _ gb101 42 #[.slice none 0 0, .bool false] (0, 0) _ rfl (by (with_reducible repeat (first | refine blk_drewN ?_ _ | refine blk_drew ?_ | refine blk_alloc ?_ _)); refine blk_put (cs := #[.slice none 0 0, .bool x102001_1]) ?_ 1 _ rfl; (with_reducible repeat (first | refine blk_drewN ?_ _ | refine blk_drew ?_ | refine blk_alloc ?_ _)); refine blk_put (cs := #[.slice none 0 0, .bool x102001_1]) ?_ 0 _ rfl; (with_reducible repeat (first | refine blk_drewN ?_ _ | refine blk_drew ?_ | refine blk_alloc ?_ _)); exact BK101.out) Tryd.underlying42 rfl (by kernel_rfl)) rfl ?_
      exact ⟨_, by first | rfl | (simp [errW_none, errW_some] <;> rfl) | (simp [*, errW_none, errW_some] <;> rfl), by first | exact Kd.R_nil _ _ _ _ _ | exact Kd.N_nil _ _ _ _ _ | exact Kd.V_nil _ _ _ _ _ | exact Kd.Q_nil _ _ _ _ _ | exact Kd.S_nil _ _ _ _ _, by repeat (first | (with_reducible first | exact HB.out | apply below_alloc | apply pw_below_drewN | apply below_drew1 | refine below_set ?_ GE101.out) | exact HB.out)⟩

end Go.Proofs.YtejgnnhmeolphaaDoor.PRefParse
