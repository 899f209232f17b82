/- HeadAll: whatever the header, the bytes and the path, the call returns true. Conditions: those of the row. -/
import Derived.Lib.SmallJoins
import Derived.ProofKit
import Derived.SizedLaws
import Derived.Test.YtpmiddhdgidimaaGreatDoorHeadGood
import Derived.Test.YtpmiddhdgidimaaGreatDoorCards
import Derived.Lay
import Derived.Stop.LaidErr
import Derived.LaidSub
import Derived.Test.YtpmiddhdgidimaaGreatDoorAllRefC
import Derived.Test.YtpmiddhdgidimaaGreatDoorAllRefA
import Derived.Test.YtpmiddhdgidimaaGreatDoorHeadSplit
import Derived.Test.YtpmiddhdgidimaaGreatDoorHeadAwake
import Derived.Test.YtpmiddhdgidimaaGreatDoorHeadEq
set_option linter.unusedVariables false
set_option linter.unusedSimpArgs false
namespace Go.Proofs.YtpmiddhdgidimaaGreatDoor
open Go Go.RowKit Go.Joins Go.ChangeShapes Go.WideShapes Go.ChangeAt Go.Deep Go.WideElems Go.Maps
variable {H : Type} {P : Program} {enc : TypeId × Value → H} {w : World} {base : Nat} {spare : Nat → Bool} {held : Bool}
theorem array13 {α : Type} {cs : Array α} (h : cs.size = 13) : ∃ c0 c1 c2 c3 c4 c5 c6 c7 c8 c9 c10 c11 c12, cs = #[c0, c1, c2, c3, c4, c5, c6, c7, c8, c9, c10, c11, c12] := by
  obtain ⟨l⟩ := cs
  match l, h with
  | [c0, c1, c2, c3, c4, c5, c6, c7, c8, c9, c10, c11, c12], _ => exact ⟨c0, c1, c2, c3, c4, c5, c6, c7, c8, c9, c10, c11, c12, rfl⟩
theorem trod_struct13 {t : TypeId} {f0 f1 f2 f3 f4 f5 f6 f7 f8 f9 f10 f11 f12 : Field} {fuel : Nat} {cs : List Value} {x : DataW H × List MemPlace} (ht : P.underlying t = some (.struct #[f0, f1, f2, f3, f4, f5, f6, f7, f8, f9, f10, f11, f12])) (h : DataW.trod enc P w base spare held fuel t cs = some x) :
    ∃ y0 y1 y2 y3 y4 y5 y6 y7 y8 y9 y10 y11 y12 n, x = (.agg [y0.1, y1.1, y2.1, y3.1, y4.1, y5.1, y6.1, y7.1, y8.1, y9.1, y10.1, y11.1, y12.1], y0.2 ++ (y1.2 ++ (y2.2 ++ (y3.2 ++ (y4.2 ++ (y5.2 ++ (y6.2 ++ (y7.2 ++ (y8.2 ++ (y9.2 ++ (y10.2 ++ (y11.2 ++ y12.2)))))))))))) ∧ cs.length = P.cellsOf t ∧ DataW.trod enc P w base spare held n f0.type ((cs.drop f0.offset).take (P.cellsOf f0.type)) = some y0 ∧ DataW.trod enc P w base spare held n f1.type ((cs.drop f1.offset).take (P.cellsOf f1.type)) = some y1 ∧ DataW.trod enc P w base spare held n f2.type ((cs.drop f2.offset).take (P.cellsOf f2.type)) = some y2 ∧ DataW.trod enc P w base spare held n f3.type ((cs.drop f3.offset).take (P.cellsOf f3.type)) = some y3 ∧ DataW.trod enc P w base spare held n f4.type ((cs.drop f4.offset).take (P.cellsOf f4.type)) = some y4 ∧ DataW.trod enc P w base spare held n f5.type ((cs.drop f5.offset).take (P.cellsOf f5.type)) = some y5 ∧ DataW.trod enc P w base spare held n f6.type ((cs.drop f6.offset).take (P.cellsOf f6.type)) = some y6 ∧ DataW.trod enc P w base spare held n f7.type ((cs.drop f7.offset).take (P.cellsOf f7.type)) = some y7 ∧ DataW.trod enc P w base spare held n f8.type ((cs.drop f8.offset).take (P.cellsOf f8.type)) = some y8 ∧ DataW.trod enc P w base spare held n f9.type ((cs.drop f9.offset).take (P.cellsOf f9.type)) = some y9 ∧ DataW.trod enc P w base spare held n f10.type ((cs.drop f10.offset).take (P.cellsOf f10.type)) = some y10 ∧ DataW.trod enc P w base spare held n f11.type ((cs.drop f11.offset).take (P.cellsOf f11.type)) = some y11 ∧ DataW.trod enc P w base spare held n f12.type ((cs.drop f12.offset).take (P.cellsOf f12.type)) = some y12 := by
  obtain ⟨xs, n, _, rfl, hl, hlen, hf⟩ := DataW.trod_struct ht h
  match xs, hlen with
  | [y0, y1, y2, y3, y4, y5, y6, y7, y8, y9, y10, y11, y12], _ => exact ⟨y0, y1, y2, y3, y4, y5, y6, y7, y8, y9, y10, y11, y12, n, by simp, hl, by simpa using hf 0 f0 rfl, by simpa using hf 1 f1 rfl, by simpa using hf 2 f2 rfl, by simpa using hf 3 f3 rfl, by simpa using hf 4 f4 rfl, by simpa using hf 5 f5 rfl, by simpa using hf 6 f6 rfl, by simpa using hf 7 f7 rfl, by simpa using hf 8 f8 rfl, by simpa using hf 9 f9 rfl, by simpa using hf 10 f10 rfl, by simpa using hf 11 f11 rfl, by simpa using hf 12 f12 rfl⟩
theorem open_agg13 {r : Reach} {b0 : Nat} {t : TypeId} {f0 f1 f2 f3 f4 f5 f6 f7 f8 f9 f10 f11 f12 : Field} {v : Value} {d : DataW H} {p : List MemPlace} (hs : P.underlying t = some (.struct #[f0, f1, f2, f3, f4, f5, f6, f7, f8, f9, f10, f11, f12])) (hone : oneCellFields P #[f0, f1, f2, f3, f4, f5, f6, f7, f8, f9, f10, f11, f12] = true) (hC : P.cellsOf t = 13)
    (hv : Value.okWide P w r b0 t v) (h : DataW.Trod enc P w base spare held t v d p) :
    ∃ (v0 v1 v2 v3 v4 v5 v6 v7 v8 v9 v10 v11 v12 : Value) (y0 y1 y2 y3 y4 y5 y6 y7 y8 y9 y10 y11 y12 : DataW H × List MemPlace) (n : Nat), v = .agg #[v0, v1, v2, v3, v4, v5, v6, v7, v8, v9, v10, v11, v12] ∧ d = .agg [y0.1, y1.1, y2.1, y3.1, y4.1, y5.1, y6.1, y7.1, y8.1, y9.1, y10.1, y11.1, y12.1] ∧ p = y0.2 ++ (y1.2 ++ (y2.2 ++ (y3.2 ++ (y4.2 ++ (y5.2 ++ (y6.2 ++ (y7.2 ++ (y8.2 ++ (y9.2 ++ (y10.2 ++ (y11.2 ++ y12.2))))))))))) ∧
      DataW.trod enc P w base spare held n f0.type [v0] = some y0 ∧ DataW.trod enc P w base spare held n f1.type [v1] = some y1 ∧ DataW.trod enc P w base spare held n f2.type [v2] = some y2 ∧ DataW.trod enc P w base spare held n f3.type [v3] = some y3 ∧ DataW.trod enc P w base spare held n f4.type [v4] = some y4 ∧ DataW.trod enc P w base spare held n f5.type [v5] = some y5 ∧ DataW.trod enc P w base spare held n f6.type [v6] = some y6 ∧ DataW.trod enc P w base spare held n f7.type [v7] = some y7 ∧ DataW.trod enc P w base spare held n f8.type [v8] = some y8 ∧ DataW.trod enc P w base spare held n f9.type [v9] = some y9 ∧ DataW.trod enc P w base spare held n f10.type [v10] = some y10 ∧ DataW.trod enc P w base spare held n f11.type [v11] = some y11 ∧ DataW.trod enc P w base spare held n f12.type [v12] = some y12 := by
  obtain ⟨cs, rfl, hsz⟩ := okWide_struct hs hv
  obtain ⟨c0, c1, c2, c3, c4, c5, c6, c7, c8, c9, c10, c11, c12, rfl⟩ := array13 (hsz.trans hC)
  obtain ⟨fuel, hf⟩ := h
  obtain ⟨y0, y1, y2, y3, y4, y5, y6, y7, y8, y9, y10, y11, y12, n, hx, _, h0, h1, h2, h3, h4, h5, h6, h7, h8, h9, h10, h11, h12⟩ := trod_struct13 hs hf
  obtain ⟨o0, k0⟩ := hone_of hone 0 f0 rfl
  obtain ⟨o1, k1⟩ := hone_of hone 1 f1 rfl
  obtain ⟨o2, k2⟩ := hone_of hone 2 f2 rfl
  obtain ⟨o3, k3⟩ := hone_of hone 3 f3 rfl
  obtain ⟨o4, k4⟩ := hone_of hone 4 f4 rfl
  obtain ⟨o5, k5⟩ := hone_of hone 5 f5 rfl
  obtain ⟨o6, k6⟩ := hone_of hone 6 f6 rfl
  obtain ⟨o7, k7⟩ := hone_of hone 7 f7 rfl
  obtain ⟨o8, k8⟩ := hone_of hone 8 f8 rfl
  obtain ⟨o9, k9⟩ := hone_of hone 9 f9 rfl
  obtain ⟨o10, k10⟩ := hone_of hone 10 f10 rfl
  obtain ⟨o11, k11⟩ := hone_of hone 11 f11 rfl
  obtain ⟨o12, k12⟩ := hone_of hone 12 f12 rfl
  simp only [Prod.mk.injEq] at hx
  exact ⟨c0, c1, c2, c3, c4, c5, c6, c7, c8, c9, c10, c11, c12, y0, y1, y2, y3, y4, y5, y6, y7, y8, y9, y10, y11, y12, n, rfl, hx.1, hx.2, by simpa [Value.cells, o0, k0] using h0, by simpa [Value.cells, o1, k1] using h1, by simpa [Value.cells, o2, k2] using h2, by simpa [Value.cells, o3, k3] using h3, by simpa [Value.cells, o4, k4] using h4, by simpa [Value.cells, o5, k5] using h5, by simpa [Value.cells, o6, k6] using h6, by simpa [Value.cells, o7, k7] using h7, by simpa [Value.cells, o8, k8] using h8, by simpa [Value.cells, o9, k9] using h9, by simpa [Value.cells, o10, k10] using h10, by simpa [Value.cells, o11, k11] using h11, by simpa [Value.cells, o12, k12] using h12⟩
theorem shut_agg13 {t : TypeId} {f0 f1 f2 f3 f4 f5 f6 f7 f8 f9 f10 f11 f12 : Field} {v0 v1 v2 v3 v4 v5 v6 v7 v8 v9 v10 v11 v12 : Value} {y0 y1 y2 y3 y4 y5 y6 y7 y8 y9 y10 y11 y12 : DataW H × List MemPlace} (hs : P.underlying t = some (.struct #[f0, f1, f2, f3, f4, f5, f6, f7, f8, f9, f10, f11, f12])) (hone : oneCellFields P #[f0, f1, f2, f3, f4, f5, f6, f7, f8, f9, f10, f11, f12] = true) (hC : P.cellsOf t = 13)
    (t0 : ∃ n, DataW.trod enc P w base spare held n f0.type [v0] = some y0) (t1 : ∃ n, DataW.trod enc P w base spare held n f1.type [v1] = some y1) (t2 : ∃ n, DataW.trod enc P w base spare held n f2.type [v2] = some y2) (t3 : ∃ n, DataW.trod enc P w base spare held n f3.type [v3] = some y3) (t4 : ∃ n, DataW.trod enc P w base spare held n f4.type [v4] = some y4) (t5 : ∃ n, DataW.trod enc P w base spare held n f5.type [v5] = some y5) (t6 : ∃ n, DataW.trod enc P w base spare held n f6.type [v6] = some y6) (t7 : ∃ n, DataW.trod enc P w base spare held n f7.type [v7] = some y7) (t8 : ∃ n, DataW.trod enc P w base spare held n f8.type [v8] = some y8) (t9 : ∃ n, DataW.trod enc P w base spare held n f9.type [v9] = some y9) (t10 : ∃ n, DataW.trod enc P w base spare held n f10.type [v10] = some y10) (t11 : ∃ n, DataW.trod enc P w base spare held n f11.type [v11] = some y11) (t12 : ∃ n, DataW.trod enc P w base spare held n f12.type [v12] = some y12) :
    DataW.Trod enc P w base spare held t (.agg #[v0, v1, v2, v3, v4, v5, v6, v7, v8, v9, v10, v11, v12]) (.agg [y0.1, y1.1, y2.1, y3.1, y4.1, y5.1, y6.1, y7.1, y8.1, y9.1, y10.1, y11.1, y12.1]) (y0.2 ++ (y1.2 ++ (y2.2 ++ (y3.2 ++ (y4.2 ++ (y5.2 ++ (y6.2 ++ (y7.2 ++ (y8.2 ++ (y9.2 ++ (y10.2 ++ (y11.2 ++ y12.2)))))))))))) := by
  obtain ⟨n0, t0⟩ := t0
  obtain ⟨n1, t1⟩ := t1
  obtain ⟨n2, t2⟩ := t2
  obtain ⟨n3, t3⟩ := t3
  obtain ⟨n4, t4⟩ := t4
  obtain ⟨n5, t5⟩ := t5
  obtain ⟨n6, t6⟩ := t6
  obtain ⟨n7, t7⟩ := t7
  obtain ⟨n8, t8⟩ := t8
  obtain ⟨n9, t9⟩ := t9
  obtain ⟨n10, t10⟩ := t10
  obtain ⟨n11, t11⟩ := t11
  obtain ⟨n12, t12⟩ := t12
  obtain ⟨o0, k0⟩ := hone_of hone 0 f0 rfl
  obtain ⟨o1, k1⟩ := hone_of hone 1 f1 rfl
  obtain ⟨o2, k2⟩ := hone_of hone 2 f2 rfl
  obtain ⟨o3, k3⟩ := hone_of hone 3 f3 rfl
  obtain ⟨o4, k4⟩ := hone_of hone 4 f4 rfl
  obtain ⟨o5, k5⟩ := hone_of hone 5 f5 rfl
  obtain ⟨o6, k6⟩ := hone_of hone 6 f6 rfl
  obtain ⟨o7, k7⟩ := hone_of hone 7 f7 rfl
  obtain ⟨o8, k8⟩ := hone_of hone 8 f8 rfl
  obtain ⟨o9, k9⟩ := hone_of hone 9 f9 rfl
  obtain ⟨o10, k10⟩ := hone_of hone 10 f10 rfl
  obtain ⟨o11, k11⟩ := hone_of hone 11 f11 rfl
  obtain ⟨o12, k12⟩ := hone_of hone 12 f12 rfl
  obtain ⟨m, hm⟩ : ∃ m, m = n0 + n1 + n2 + n3 + n4 + n5 + n6 + n7 + n8 + n9 + n10 + n11 + n12 := ⟨_, rfl⟩
  have u0 : DataW.trod enc P w base spare held m f0.type ((([v0, v1, v2, v3, v4, v5, v6, v7, v8, v9, v10, v11, v12] : List Value).drop f0.offset).take (P.cellsOf f0.type)) = some y0 := by simpa [o0, k0] using DataW.trod_le (show n0 ≤ m by omega) t0
  have u1 : DataW.trod enc P w base spare held m f1.type ((([v0, v1, v2, v3, v4, v5, v6, v7, v8, v9, v10, v11, v12] : List Value).drop f1.offset).take (P.cellsOf f1.type)) = some y1 := by simpa [o1, k1] using DataW.trod_le (show n1 ≤ m by omega) t1
  have u2 : DataW.trod enc P w base spare held m f2.type ((([v0, v1, v2, v3, v4, v5, v6, v7, v8, v9, v10, v11, v12] : List Value).drop f2.offset).take (P.cellsOf f2.type)) = some y2 := by simpa [o2, k2] using DataW.trod_le (show n2 ≤ m by omega) t2
  have u3 : DataW.trod enc P w base spare held m f3.type ((([v0, v1, v2, v3, v4, v5, v6, v7, v8, v9, v10, v11, v12] : List Value).drop f3.offset).take (P.cellsOf f3.type)) = some y3 := by simpa [o3, k3] using DataW.trod_le (show n3 ≤ m by omega) t3
  have u4 : DataW.trod enc P w base spare held m f4.type ((([v0, v1, v2, v3, v4, v5, v6, v7, v8, v9, v10, v11, v12] : List Value).drop f4.offset).take (P.cellsOf f4.type)) = some y4 := by simpa [o4, k4] using DataW.trod_le (show n4 ≤ m by omega) t4
  have u5 : DataW.trod enc P w base spare held m f5.type ((([v0, v1, v2, v3, v4, v5, v6, v7, v8, v9, v10, v11, v12] : List Value).drop f5.offset).take (P.cellsOf f5.type)) = some y5 := by simpa [o5, k5] using DataW.trod_le (show n5 ≤ m by omega) t5
  have u6 : DataW.trod enc P w base spare held m f6.type ((([v0, v1, v2, v3, v4, v5, v6, v7, v8, v9, v10, v11, v12] : List Value).drop f6.offset).take (P.cellsOf f6.type)) = some y6 := by simpa [o6, k6] using DataW.trod_le (show n6 ≤ m by omega) t6
  have u7 : DataW.trod enc P w base spare held m f7.type ((([v0, v1, v2, v3, v4, v5, v6, v7, v8, v9, v10, v11, v12] : List Value).drop f7.offset).take (P.cellsOf f7.type)) = some y7 := by simpa [o7, k7] using DataW.trod_le (show n7 ≤ m by omega) t7
  have u8 : DataW.trod enc P w base spare held m f8.type ((([v0, v1, v2, v3, v4, v5, v6, v7, v8, v9, v10, v11, v12] : List Value).drop f8.offset).take (P.cellsOf f8.type)) = some y8 := by simpa [o8, k8] using DataW.trod_le (show n8 ≤ m by omega) t8
  have u9 : DataW.trod enc P w base spare held m f9.type ((([v0, v1, v2, v3, v4, v5, v6, v7, v8, v9, v10, v11, v12] : List Value).drop f9.offset).take (P.cellsOf f9.type)) = some y9 := by simpa [o9, k9] using DataW.trod_le (show n9 ≤ m by omega) t9
  have u10 : DataW.trod enc P w base spare held m f10.type ((([v0, v1, v2, v3, v4, v5, v6, v7, v8, v9, v10, v11, v12] : List Value).drop f10.offset).take (P.cellsOf f10.type)) = some y10 := by simpa [o10, k10] using DataW.trod_le (show n10 ≤ m by omega) t10
  have u11 : DataW.trod enc P w base spare held m f11.type ((([v0, v1, v2, v3, v4, v5, v6, v7, v8, v9, v10, v11, v12] : List Value).drop f11.offset).take (P.cellsOf f11.type)) = some y11 := by simpa [o11, k11] using DataW.trod_le (show n11 ≤ m by omega) t11
  have u12 : DataW.trod enc P w base spare held m f12.type ((([v0, v1, v2, v3, v4, v5, v6, v7, v8, v9, v10, v11, v12] : List Value).drop f12.offset).take (P.cellsOf f12.type)) = some y12 := by simpa [o12, k12] using DataW.trod_le (show n12 ≤ m by omega) t12
  have ts := trod_struct_mk (enc := enc) (w := w) (base := base) (spare := spare) (held := held) (n := m) (cs := [v0, v1, v2, v3, v4, v5, v6, v7, v8, v9, v10, v11, v12]) (xs := [y0, y1, y2, y3, y4, y5, y6, y7, y8, y9, y10, y11, y12]) hs (by simp [hC]) (by simp only [List.length_cons, List.length_nil]; simp [u0, u1, u2, u3, u4, u5, u6, u7, u8, u9, u10, u11, u12])
  exact ⟨_, by simpa [Value.cells] using ts⟩
end Go.Proofs.YtpmiddhdgidimaaGreatDoor
namespace Go.Proofs.YtpmiddhdgidimaaGreatDoor
open Go.ChangeShapes Go.WideShapes
theorem sized_agg_str {H : Type} {P : Program} {ts : List TypeId} {ds : List (DataW H)} {j i : Nat} {t ti : TypeId} {fs : Array Field} {xs : List (DataW H)} {bytes : List UInt8} (hsz : (DataW.weightsEach P ts ds).all (· ≤ reachBytes) = true) (ht : ts[j]? = some t) (hd : ds[j]? = some (.agg xs)) (hu : P.underlying t = some (.struct fs)) (hf : (fs.toList.map (·.type))[i]? = some ti) (hx : xs[i]? = some (.lit (.string bytes))) :
    bytes.length ≤ 140737488351232 := by
  have := List.all_eq_true.1 hsz _ (DataW.weights_mem_each ht hd bytes.length (by
    simp only [DataW.weights, hu]
    exact DataW.weights_mem_each hf hx bytes.length (by simp [DataW.weights])))
  exact of_decide_eq_true this
end Go.Proofs.YtpmiddhdgidimaaGreatDoor
namespace Go.Proofs.YtpmiddhdgidimaaGreatDoor
open Go.RowKit Go.Sort
theorem one_laid {W : World} {l : List (String × DataW Unit)} {x : String × DataW Unit} (nm : String) (h : laidMetH Tryz.prog l W) (e : ((l.filter fun x => x.2.handleName?.isNone).filter fun y => y.1 == nm) = [x]) : laidMet Tryz.prog [x] W := by
  have := (laidMetH_iff.1 h).1.filter (fun y => y.1 == nm)
  rw [e] at this
  exact this
def tab64 : List Int := [0, 1, 56, 2, 57, 49, 28, 3, 61, 58, 42, 50, 38, 29, 17, 4, 62, 47, 59, 36, 45, 43, 51, 22, 53, 39, 33, 30, 24, 18, 12, 5, 63, 55, 48, 27, 60, 41, 37, 16, 46, 35, 44, 21, 52, 32, 23, 11, 54, 26, 40, 15, 34, 20, 31, 10, 25, 14, 19, 9, 13, 8, 7, 6]
theorem gTab : Tryz.prog.globalNamed "math/bits.deBruijn64tab" = some 5 := by kernel_rfl
theorem good_start {W : World} (hs : W.ShapedOpen Tryz.prog) (h : laidMetH Tryz.prog Rows.headAllRow.laid W) : Good W := by
  refine ⟨hs, ?_⟩
  have ht : Lib.TabIs Tryz.prog W "math/bits.deBruijn64tab" .u8 tab64 := Lib.tabIs_of_head (t := 134) (e := 5) (n := 64) gTab (by kernel_rfl) (by kernel_rfl) (by kernel_rfl) (by kernel_rfl) (by kernel_rfl) (one_laid (x := ("math/bits.deBruijn64tab", Lib.tabData .u8 tab64)) "math/bits.deBruijn64tab" h (by kernel_rfl))
  exact ht.cell gTab 7 (by decide)
end Go.Proofs.YtpmiddhdgidimaaGreatDoor
namespace Go.Proofs.YtpmiddhdgidimaaGreatDoor
open Go.RowKit Go.Proofs.YtpmiddhdgidimaaGreatDoorW.PrintWords

set_option maxHeartbeats 4000000 in
set_option maxRecDepth 100000 in
theorem headAll_far (h : Hd) (s path : List UInt8) (w : World) (hG : Good w) (hg : 1100 < s.length ∨ 600 < path.length) :
    Calls Tryz.prog 3 #[.agg (hdCells h), .string (mkS s), .string (mkS path)] w fun e w' => e = .returned (.bool true) ∧ Below w.heap.size w w' := by
  have HG := Aside0.mk hG
  have HB0 := Aside0.mk (below_alloc (Below.refl w.heap.size w) (.cells (hdCells h) 23))
  clear hG
  have hq : (1100 : Int) < s.length ∨ (¬ (1100 : Int) < s.length ∧ (600 : Int) < path.length) := by omega
  clear hg
  obtain ⟨n0, n1, n2, n3, n4, n5, n6, n7, n8, n9, n10, n11, n12⟩ := h
  unfold hdCells at HB0 ⊢
  simp only at HB0 ⊢
  rcases hq with q1 | ⟨q1, q2⟩
  all_goals
    go_enter Tryz.func3, Tryz.ntmps3
    go_wp2_with fail
    refine (awake_any _ (HG.out.below HB0.out)).mono ?_
    rintro e w1 ⟨rfl, hb1⟩
    go_wp2_with fail
    go_ret
    exact ⟨rfl, below_next HB0.out hb1⟩
theorem got_parts (r : Except Int Hd) : ∃ (x : Hd) (n : Int), gotH r = .tuple #[.agg (hdCells x), .int .i64 n] ∧ gotR r = .agg ((hdCells x).push (.int .i64 n)) ∧ (r = .error n ∨ n = 0) := by
  cases r with
  | ok h => exact ⟨h, 0, rfl, rfl, .inr rfl⟩
  | error n => exact ⟨hd0, n, rfl, rfl, .inl rfl⟩
theorem getT_err {s : List UInt8} {n : Int} (h : getT s = .error n) : n = 5 ∨ n = 2 ∨ n = 4 := by
  unfold getT at h
  split at h
  · injection h with h; exact .inl h.symm
  · split at h
    · injection h with h; exact .inr (.inl h.symm)
    · split at h
      · split at h
        · cases h
        · injection h with h; exact .inr (.inr h.symm)
      · injection h with h; exact .inr (.inr h.symm)
set_option maxHeartbeats 40000000 in
set_option maxRecDepth 100000 in
theorem headAll_main (h : Hd) (s path : List UInt8) (w : World) (hG : Good w) (hf : Fits h) (hs : s.length ≤ 1100) (hp : path.length ≤ 600) :
    Calls Tryz.prog 3 #[.agg (hdCells h), .string (mkS s), .string (mkS path)] w fun e w' => e = .returned (.bool true) ∧ Below w.heap.size w w' := by
  have q1 : ¬ (1100 : Int) < s.length := by omega
  have q2 : ¬ (600 : Int) < path.length := by omega
  have HMAY := Aside0.mk (fun W hGW => may_any h W hGW hf)
  have HRMAY := Aside0.mk (fun W (_ : Good W) => rMay_any h W hf.ints)
  have HPUT := Aside0.mk (fun W hGW => put_any h W hGW hf)
  have HRPUT := Aside0.mk (fun W (_ : Good W) => rPut_any h W hf.ints)
  have HJ := Aside0.mk (fun W (_ : Good W) => join_any h W (Nat.le_trans hf.name (by decide)) (Nat.le_trans hf.pre (by decide)))
  have HRJ := Aside0.mk (fun W (_ : Good W) => rJoin_any h W (Nat.le_trans hf.name (by decide)) (Nat.le_trans hf.pre (by decide)))
  have HGET := Aside0.mk (fun W hGW => get_any s (by omega) W hGW)
  have HRGET := Aside0.mk (fun W => rGet_any s W)
  have HSP := Aside0.mk (fun W => split_any path W (by omega))
  have HRSP := Aside0.mk (fun W => rSplit_any path W (by omega))
  have HAW := Aside0.mk (fun W hGW => awake_any W hGW)
  obtain ⟨x, En, hx1, hx2, hx3⟩ := got_parts (getT s)
  have HERR := Aside0.mk (fun W (_ : Good W) => show Calls Tryz.prog 13 #[.int .i64 En] W fun e w' => e = .returned (.int .i64 En) ∧ Below W.heap.size W w' from by
    refine (err_any En ?_ W).mono ?_
    · rcases hx3 with hx3 | rfl
      · rcases getT_err hx3 with rfl | rfl | rfl <;> decide
      · decide
    · rintro e w' ⟨rfl, rfl⟩
      exact ⟨rfl, Below.refl _ _⟩)
  rw [hx1] at HGET
  rw [hx2] at HRGET
  have HEQ := Aside0.mk (fun d W => eqHd_same d W x)
  clear hx1 hx2 hx3
  obtain ⟨MH, hMH⟩ : ∃ b, mayH h = b := ⟨_, rfl⟩
  obtain ⟨PT, hPT⟩ : ∃ b, putT h = b := ⟨_, rfl⟩
  obtain ⟨JT, hJT⟩ : ∃ b, joinT h = b := ⟨_, rfl⟩
  rw [hMH] at HMAY HRMAY
  rw [hPT] at HPUT HRPUT
  rw [hJT] at HJ HRJ
  unfold splitV at HSP
  unfold partsV at HRSP
  obtain ⟨sa, hsa⟩ : ∃ b, (splitT path).1 = b := ⟨_, rfl⟩
  obtain ⟨sb, hsb⟩ : ∃ b, (splitT path).2.1 = b := ⟨_, rfl⟩
  obtain ⟨sc, hsc⟩ : ∃ b, (splitT path).2.2 = b := ⟨_, rfl⟩
  rw [hsa, hsb, hsc] at HSP HRSP
  have HG := Aside0.mk hG
  have G0 := Aside0.mk (heap_alloc_new w (.cells (hdCells h) 23))
  have B0 := Aside0.mk (below_alloc (Below.refl w.heap.size w) (.cells (hdCells h) 23))
  clear hG hf hMH hPT hJT hsa hsb hsc hs hp
  obtain ⟨n0, n1, n2, n3, n4, n5, n6, n7, n8, n9, n10, n11, n12⟩ := h
  obtain ⟨m0, m1, m2, m3, m4, m5, m6, m7, m8, m9, m10, m11, m12⟩ := x
  unfold hdCells at *
  simp only at *
  rw [show (#[.string (mkS m0), .int .i64 m1, .int .i64 m2, .int .i64 m3, .int .i64 m4, .int .i64 m5, .int .u8 (m6.toNat : Int), .string (mkS m7), .string (mkS m8), .string (mkS m9), .int .i64 m10, .int .i64 m11, .string (mkS m12)] : Array Value).push (.int .i64 En) = #[.string (mkS m0), .int .i64 m1, .int .i64 m2, .int .i64 m3, .int .i64 m4, .int .i64 m5, .int .u8 (m6.toNat : Int), .string (mkS m7), .string (mkS m8), .string (mkS m9), .int .i64 m10, .int .i64 m11, .string (mkS m12), .int .i64 En] from rfl] at HRGET
  go_enter Tryz.func3, Tryz.ntmps3
  go_wp2_with fail
  refine (HGET.out _ (HG.out.below B0.out)).mono ?_
  rintro e w1 ⟨rfl, hb1⟩
  have G1 := Aside0.mk ((hb1.block _ (blk_lt G0.out)).trans G0.out)
  have B1 := Aside0.mk (below_next B0.out hb1)
  clear hb1 G0 B0 HGET
  have X2 := Aside0.mk (heap_alloc_new w1 (.cells #[.string (mkS m0), .int .i64 m1, .int .i64 m2, .int .i64 m3, .int .i64 m4, .int .i64 m5, .int .u8 (m6.toNat : Int), .string (mkS m7), .string (mkS m8), .string (mkS m9), .int .i64 m10, .int .i64 m11, .string (mkS m12)] 23))
  have G2 := Aside0.mk (blk_alloc G1.out (.cells #[.string (mkS m0), .int .i64 m1, .int .i64 m2, .int .i64 m3, .int .i64 m4, .int .i64 m5, .int .u8 (m6.toNat : Int), .string (mkS m7), .string (mkS m8), .string (mkS m9), .int .i64 m10, .int .i64 m11, .string (mkS m12)] 23))
  have B2 := Aside0.mk (below_alloc B1.out (.cells #[.string (mkS m0), .int .i64 m1, .int .i64 m2, .int .i64 m3, .int .i64 m4, .int .i64 m5, .int .u8 (m6.toNat : Int), .string (mkS m7), .string (mkS m8), .string (mkS m9), .int .i64 m10, .int .i64 m11, .string (mkS m12)] 23))
  clear G1 B1
  go_wp2_with fail
  refine (HRGET.out _).mono ?_
  rintro e w2 ⟨rfl, hb2⟩
  have G3 := Aside0.mk ((hb2.block _ (blk_lt G2.out)).trans G2.out)
  have X3 := Aside0.mk ((hb2.block _ (blk_lt X2.out)).trans X2.out)
  have B3 := Aside0.mk (below_next B2.out hb2)
  clear hb2 G2 X2 B2 HRGET
  have Y4 := Aside0.mk (heap_alloc_new w2 (.cells #[.string (mkS m0), .int .i64 m1, .int .i64 m2, .int .i64 m3, .int .i64 m4, .int .i64 m5, .int .u8 (m6.toNat : Int), .string (mkS m7), .string (mkS m8), .string (mkS m9), .int .i64 m10, .int .i64 m11, .string (mkS m12), .int .i64 En] 29))
  have G4 := Aside0.mk (blk_alloc G3.out (.cells #[.string (mkS m0), .int .i64 m1, .int .i64 m2, .int .i64 m3, .int .i64 m4, .int .i64 m5, .int .u8 (m6.toNat : Int), .string (mkS m7), .string (mkS m8), .string (mkS m9), .int .i64 m10, .int .i64 m11, .string (mkS m12), .int .i64 En] 29))
  have X4 := Aside0.mk (blk_alloc X3.out (.cells #[.string (mkS m0), .int .i64 m1, .int .i64 m2, .int .i64 m3, .int .i64 m4, .int .i64 m5, .int .u8 (m6.toNat : Int), .string (mkS m7), .string (mkS m8), .string (mkS m9), .int .i64 m10, .int .i64 m11, .string (mkS m12), .int .i64 En] 29))
  have B4 := Aside0.mk (below_alloc B3.out (.cells #[.string (mkS m0), .int .i64 m1, .int .i64 m2, .int .i64 m3, .int .i64 m4, .int .i64 m5, .int .u8 (m6.toNat : Int), .string (mkS m7), .string (mkS m8), .string (mkS m9), .int .i64 m10, .int .i64 m11, .string (mkS m12), .int .i64 En] 29))
  clear G3 X3 B3
  go_wp2_with fail
  refine (HSP.out _).mono ?_
  rintro e w3 ⟨rfl, hb3⟩
  have G5 := Aside0.mk ((hb3.block _ (blk_lt G4.out)).trans G4.out)
  have X5 := Aside0.mk ((hb3.block _ (blk_lt X4.out)).trans X4.out)
  have Y5 := Aside0.mk ((hb3.block _ (blk_lt Y4.out)).trans Y4.out)
  have B5 := Aside0.mk (below_next B4.out hb3)
  clear hb3 G4 X4 Y4 B4 HSP
  go_wp2_with fail
  refine (HRSP.out _).mono ?_
  rintro e w4 ⟨rfl, hb4⟩
  have G6 := Aside0.mk ((hb4.block _ (blk_lt G5.out)).trans G5.out)
  have X6 := Aside0.mk ((hb4.block _ (blk_lt X5.out)).trans X5.out)
  have Y6 := Aside0.mk ((hb4.block _ (blk_lt Y5.out)).trans Y5.out)
  have B6 := Aside0.mk (below_next B5.out hb4)
  clear hb4 G5 X5 Y5 B5 HRSP
  have HQB := Aside0.mk (heap_alloc_new w4 (.cells #[.string (mkS sa), .string (mkS sb), .bool sc] 34))
  have HPB := Aside0.mk (blk_alloc G6.out (.cells #[.string (mkS sa), .string (mkS sb), .bool sc] 34))
  have HXB := Aside0.mk (blk_alloc X6.out (.cells #[.string (mkS sa), .string (mkS sb), .bool sc] 34))
  have HYB := Aside0.mk (blk_alloc Y6.out (.cells #[.string (mkS sa), .string (mkS sb), .bool sc] 34))
  have BW := Aside0.mk (below_alloc B6.out (.cells #[.string (mkS sa), .string (mkS sb), .bool sc] 34))
  clear G6 X6 Y6 B6
  go_wp2_with fail
  obtain ⟨W, hW⟩ : ∃ W, W = w4.alloc (.cells #[.string (mkS sa), .string (mkS sb), .bool sc] 34) := ⟨_, rfl⟩
  rw [← hW] at HQB HPB HXB HYB BW ⊢
  clear hW
  have BE := Aside0.mk (fun (W' : World) (hb : Below W.heap.size W W') => below_next BW.out hb)
  generalize hpq : w4.heap.size = pq at HQB ⊢
  generalize hpy : w2.heap.size = py at HYB ⊢
  generalize hpx : w1.heap.size = px at HXB ⊢
  obtain ⟨pp, hpp⟩ : ∃ pp, w.heap.size = pp := ⟨_, rfl⟩
  rw [hpp] at HPB
  have HGB := Aside0.mk (fun (W' : World) (hb : Below W.heap.size W W') => HG.out.below (BE.out W' hb))
  rw [show w.heap.size = pp from hpp]
  clear hpq hpy hpx
  refine wp_region_list (by kernel_rfl) (by kernel_rfl) (fun j => ([some (.agg #[.string (mkS n0), .int .i64 n1, .int .i64 n2, .int .i64 n3, .int .i64 n4, .int .i64 n5, .int .u8 (n6.toNat : Int), .string (mkS n7), .string (mkS n8), .string (mkS n9), .int .i64 n10, .int .i64 n11, .string (mkS n12)]), some (.bool MH), some (.agg #[.string (mkS n0), .int .i64 n1, .int .i64 n2, .int .i64 n3, .int .i64 n4, .int .i64 n5, .int .u8 (n6.toNat : Int), .string (mkS n7), .string (mkS n8), .string (mkS n9), .int .i64 n10, .int .i64 n11, .string (mkS n12)]), some (.bool MH), some (.bool true), some (.bool true), some (.agg #[.string (mkS n0), .int .i64 n1, .int .i64 n2, .int .i64 n3, .int .i64 n4, .int .i64 n5, .int .u8 (n6.toNat : Int), .string (mkS n7), .string (mkS n8), .string (mkS n9), .int .i64 n10, .int .i64 n11, .string (mkS n12)]), some (.string (mkS PT)), some (.agg #[.string (mkS n0), .int .i64 n1, .int .i64 n2, .int .i64 n3, .int .i64 n4, .int .i64 n5, .int .u8 (n6.toNat : Int), .string (mkS n7), .string (mkS n8), .string (mkS n9), .int .i64 n10, .int .i64 n11, .string (mkS n12)]), some (.string (mkS PT)), some (.bool true), some (.bool true), some (.bool true), some (.agg #[.string (mkS m0), .int .i64 m1, .int .i64 m2, .int .i64 m3, .int .i64 m4, .int .i64 m5, .int .u8 (m6.toNat : Int), .string (mkS m7), .string (mkS m8), .string (mkS m9), .int .i64 m10, .int .i64 m11, .string (mkS m12)]), some (.pointer (some ⟨py, 0, none⟩)), some (.agg #[.string (mkS m0), .int .i64 m1, .int .i64 m2, .int .i64 m3, .int .i64 m4, .int .i64 m5, .int .u8 (m6.toNat : Int), .string (mkS m7), .string (mkS m8), .string (mkS m9), .int .i64 m10, .int .i64 m11, .string (mkS m12)]), some (.bool true), some (.bool true), some (.bool true), some (.int .i64 En), some (.int .i64 En), some (.pointer (some ⟨py, 13, none⟩)), some (.int .i64 En), some (.bool true), some (.bool true), some (.bool true), some (.string (mkS sa)), some (.pointer (some ⟨pq, 0, none⟩)), some (.string (mkS sa)), some (.bool true), some (.bool true), some (.bool true), some (.string (mkS sb)), some (.pointer (some ⟨pq, 1, none⟩)), some (.string (mkS sb)), some (.bool true), some (.bool true), some (.bool true), some (.bool sc), some (.pointer (some ⟨pq, 2, none⟩)), some (.bool sc), some (.bool true), some (.bool true), some (.bool true), some (.agg #[.string (mkS n0), .int .i64 n1, .int .i64 n2, .int .i64 n3, .int .i64 n4, .int .i64 n5, .int .u8 (n6.toNat : Int), .string (mkS n7), .string (mkS n8), .string (mkS n9), .int .i64 n10, .int .i64 n11, .string (mkS n12)]), some (.string (mkS JT)), some (.agg #[.string (mkS n0), .int .i64 n1, .int .i64 n2, .int .i64 n3, .int .i64 n4, .int .i64 n5, .int .u8 (n6.toNat : Int), .string (mkS n7), .string (mkS n8), .string (mkS n9), .int .i64 n10, .int .i64 n11, .string (mkS n12)]), some (.string (mkS JT)), some (.bool true), some (.bool true), some (.bool true), some (.bool true), some (.bool true), some (.bool true)] : List (Option Value)).getD j none) (by kernel_rfl) (fun _ _ _ => True) (fun vs => [(some 38, .agg #[.string (mkS n0), .int .i64 n1, .int .i64 n2, .int .i64 n3, .int .i64 n4, .int .i64 n5, .int .u8 (n6.toNat : Int), .string (mkS n7), .string (mkS n8), .string (mkS n9), .int .i64 n10, .int .i64 n11, .string (mkS n12)]), (some 39, .bool MH), (some 40, .agg #[.string (mkS n0), .int .i64 n1, .int .i64 n2, .int .i64 n3, .int .i64 n4, .int .i64 n5, .int .u8 (n6.toNat : Int), .string (mkS n7), .string (mkS n8), .string (mkS n9), .int .i64 n10, .int .i64 n11, .string (mkS n12)]), (some 41, .bool MH), (some 42, .bool true), (some 43, .bool true), (some 44, .agg #[.string (mkS n0), .int .i64 n1, .int .i64 n2, .int .i64 n3, .int .i64 n4, .int .i64 n5, .int .u8 (n6.toNat : Int), .string (mkS n7), .string (mkS n8), .string (mkS n9), .int .i64 n10, .int .i64 n11, .string (mkS n12)]), (some 45, .string (mkS PT)), (some 46, .agg #[.string (mkS n0), .int .i64 n1, .int .i64 n2, .int .i64 n3, .int .i64 n4, .int .i64 n5, .int .u8 (n6.toNat : Int), .string (mkS n7), .string (mkS n8), .string (mkS n9), .int .i64 n10, .int .i64 n11, .string (mkS n12)]), (some 47, .string (mkS PT)), (some 48, .bool true), (some 49, .bool true), (some 50, .bool true), (some 51, .agg #[.string (mkS m0), .int .i64 m1, .int .i64 m2, .int .i64 m3, .int .i64 m4, .int .i64 m5, .int .u8 (m6.toNat : Int), .string (mkS m7), .string (mkS m8), .string (mkS m9), .int .i64 m10, .int .i64 m11, .string (mkS m12)]), (some 52, .pointer (some ⟨py, 0, none⟩)), (some 53, .agg #[.string (mkS m0), .int .i64 m1, .int .i64 m2, .int .i64 m3, .int .i64 m4, .int .i64 m5, .int .u8 (m6.toNat : Int), .string (mkS m7), .string (mkS m8), .string (mkS m9), .int .i64 m10, .int .i64 m11, .string (mkS m12)]), (some 54, .bool true), (some 55, .bool true), (some 56, .bool true), (some 57, .int .i64 En), (some 58, .int .i64 En), (some 59, .pointer (some ⟨py, 13, none⟩)), (some 60, .int .i64 En), (some 61, .bool true), (some 62, .bool true), (some 63, .bool true), (some 64, .string (mkS sa)), (some 65, .pointer (some ⟨pq, 0, none⟩)), (some 66, .string (mkS sa)), (some 67, .bool true), (some 68, .bool true), (some 69, .bool true), (some 70, .string (mkS sb)), (some 71, .pointer (some ⟨pq, 1, none⟩)), (some 72, .string (mkS sb)), (some 73, .bool true), (some 74, .bool true), (some 75, .bool true), (some 76, .bool sc), (some 77, .pointer (some ⟨pq, 2, none⟩)), (some 78, .bool sc), (some 79, .bool true), (some 80, .bool true), (some 81, .bool true), (some 82, .agg #[.string (mkS n0), .int .i64 n1, .int .i64 n2, .int .i64 n3, .int .i64 n4, .int .i64 n5, .int .u8 (n6.toNat : Int), .string (mkS n7), .string (mkS n8), .string (mkS n9), .int .i64 n10, .int .i64 n11, .string (mkS n12)]), (some 83, .string (mkS JT)), (some 84, .agg #[.string (mkS n0), .int .i64 n1, .int .i64 n2, .int .i64 n3, .int .i64 n4, .int .i64 n5, .int .u8 (n6.toNat : Int), .string (mkS n7), .string (mkS n8), .string (mkS n9), .int .i64 n10, .int .i64 n11, .string (mkS n12)]), (some 85, .string (mkS JT)), (some 86, .bool true), (some 87, .bool true), (some 88, .bool true), (some 89, .bool true), (some 90, .bool true), (some 6, .bool true)]) (fun _ => by kernel_rfl) (AllAt.cons ?_ (AllAt.cons ?_ (AllAt.cons ?_ (AllAt.cons ?_ (AllAt.cons ?_ (AllAt.cons ?_ (AllAt.cons ?_ (AllAt.cons ?_ (AllAt.cons ?_ (AllAt.cons ?_ (AllAt.cons ?_ (AllAt.cons ?_ (AllAt.cons ?_ (AllAt.cons ?_ (AllAt.cons ?_ (AllAt.cons ?_ (AllAt.cons ?_ (AllAt.cons ?_ (AllAt.cons ?_ (AllAt.cons ?_ (AllAt.cons ?_ (AllAt.cons ?_ (AllAt.cons ?_ (AllAt.cons ?_ (AllAt.cons ?_ (AllAt.cons ?_ (AllAt.cons ?_ (AllAt.cons ?_ (AllAt.cons ?_ (AllAt.cons ?_ (AllAt.cons ?_ (AllAt.cons ?_ (AllAt.cons ?_ (AllAt.cons ?_ (AllAt.cons ?_ (AllAt.cons ?_ (AllAt.cons ?_ (AllAt.cons ?_ (AllAt.cons ?_ (AllAt.cons ?_ (AllAt.cons ?_ (AllAt.cons ?_ (AllAt.cons ?_ (AllAt.cons ?_ (AllAt.cons ?_ (AllAt.cons ?_ (AllAt.cons ?_ (AllAt.cons ?_ (AllAt.cons ?_ (AllAt.cons ?_ (AllAt.cons ?_ (AllAt.cons ?_ (AllAt.cons ?_ (AllAt.cons ?_ (AllAt.nil))))))))))))))))))))))))))))))))))))))))))))))))))))))) ?_
  · -- 0: loadP
    intro L vs a' w' hA hF hG K hK
    have e3 : a'.tmps[3]? = some (.pointer (some ⟨pp, 0, none⟩)) := hF.old rfl (by kernel_rfl)
    have hblk := (hG.below.block pp (blk_lt HPB.out)).trans HPB.out
    have c0 : w'.cell? ⟨pp, 0, none⟩ = some (.string (mkS n0)) := blk_cell hblk 0
    have c1 : w'.cell? ⟨pp, 1, none⟩ = some (.int .i64 n1) := blk_cell hblk 1
    have c2 : w'.cell? ⟨pp, 2, none⟩ = some (.int .i64 n2) := blk_cell hblk 2
    have c3 : w'.cell? ⟨pp, 3, none⟩ = some (.int .i64 n3) := blk_cell hblk 3
    have c4 : w'.cell? ⟨pp, 4, none⟩ = some (.int .i64 n4) := blk_cell hblk 4
    have c5 : w'.cell? ⟨pp, 5, none⟩ = some (.int .i64 n5) := blk_cell hblk 5
    have c6 : w'.cell? ⟨pp, 6, none⟩ = some (.int .u8 (n6.toNat : Int)) := blk_cell hblk 6
    have c7 : w'.cell? ⟨pp, 7, none⟩ = some (.string (mkS n7)) := blk_cell hblk 7
    have c8 : w'.cell? ⟨pp, 8, none⟩ = some (.string (mkS n8)) := blk_cell hblk 8
    have c9 : w'.cell? ⟨pp, 9, none⟩ = some (.string (mkS n9)) := blk_cell hblk 9
    have c10 : w'.cell? ⟨pp, 10, none⟩ = some (.int .i64 n10) := blk_cell hblk 10
    have c11 : w'.cell? ⟨pp, 11, none⟩ = some (.int .i64 n11) := blk_cell hblk 11
    have c12 : w'.cell? ⟨pp, 12, none⟩ = some (.string (mkS n12)) := blk_cell hblk 12
    have lg := blk_lt hblk
    clear hblk
    clear hF hA
    go_simp
    exact hK _ _ (hG.next_val KPT rfl trivial (Below.refl _ _))
  · -- 1: call
    intro L vs a' w' hA hF hG K hK
    have e38 : a'.tmps[38]? = some (.agg #[.string (mkS n0), .int .i64 n1, .int .i64 n2, .int .i64 n3, .int .i64 n4, .int .i64 n5, .int .u8 (n6.toNat : Int), .string (mkS n7), .string (mkS n8), .string (mkS n9), .int .i64 n10, .int .i64 n11, .string (mkS n12)]) := hG.at hF 0 38 (hA ⟨0, .data⟩ (by simp) rfl) rfl rfl
    have hgw := HGB.out _ hG.below
    have HGW := Aside0.mk hgw
    clear hF hA hgw
    go_simp
    refine (HMAY.out _ HGW.out).mono ?_
    rintro e w2 ⟨rfl, hb⟩
    exact hK _ _ (hG.next_val KPT rfl trivial hb)
  · -- 2: loadP
    intro L vs a' w' hA hF hG K hK
    have e3 : a'.tmps[3]? = some (.pointer (some ⟨pp, 0, none⟩)) := hF.old rfl (by kernel_rfl)
    have hblk := (hG.below.block pp (blk_lt HPB.out)).trans HPB.out
    have c0 : w'.cell? ⟨pp, 0, none⟩ = some (.string (mkS n0)) := blk_cell hblk 0
    have c1 : w'.cell? ⟨pp, 1, none⟩ = some (.int .i64 n1) := blk_cell hblk 1
    have c2 : w'.cell? ⟨pp, 2, none⟩ = some (.int .i64 n2) := blk_cell hblk 2
    have c3 : w'.cell? ⟨pp, 3, none⟩ = some (.int .i64 n3) := blk_cell hblk 3
    have c4 : w'.cell? ⟨pp, 4, none⟩ = some (.int .i64 n4) := blk_cell hblk 4
    have c5 : w'.cell? ⟨pp, 5, none⟩ = some (.int .i64 n5) := blk_cell hblk 5
    have c6 : w'.cell? ⟨pp, 6, none⟩ = some (.int .u8 (n6.toNat : Int)) := blk_cell hblk 6
    have c7 : w'.cell? ⟨pp, 7, none⟩ = some (.string (mkS n7)) := blk_cell hblk 7
    have c8 : w'.cell? ⟨pp, 8, none⟩ = some (.string (mkS n8)) := blk_cell hblk 8
    have c9 : w'.cell? ⟨pp, 9, none⟩ = some (.string (mkS n9)) := blk_cell hblk 9
    have c10 : w'.cell? ⟨pp, 10, none⟩ = some (.int .i64 n10) := blk_cell hblk 10
    have c11 : w'.cell? ⟨pp, 11, none⟩ = some (.int .i64 n11) := blk_cell hblk 11
    have c12 : w'.cell? ⟨pp, 12, none⟩ = some (.string (mkS n12)) := blk_cell hblk 12
    have lg := blk_lt hblk
    clear hblk
    clear hF hA
    go_simp
    exact hK _ _ (hG.next_val KPT rfl trivial (Below.refl _ _))
  · -- 3: call
    intro L vs a' w' hA hF hG K hK
    have e40 : a'.tmps[40]? = some (.agg #[.string (mkS n0), .int .i64 n1, .int .i64 n2, .int .i64 n3, .int .i64 n4, .int .i64 n5, .int .u8 (n6.toNat : Int), .string (mkS n7), .string (mkS n8), .string (mkS n9), .int .i64 n10, .int .i64 n11, .string (mkS n12)]) := hG.at hF 2 40 (hA ⟨2, .data⟩ (by simp) rfl) rfl rfl
    have hgw := HGB.out _ hG.below
    have HGW := Aside0.mk hgw
    clear hF hA hgw
    go_simp
    refine (HRMAY.out _ HGW.out).mono ?_
    rintro e w2 ⟨rfl, hb⟩
    exact hK _ _ (hG.next_val KPT rfl trivial hb)
  · -- 4: eql
    intro L vs a' w' hA hF hG K hK
    have e39 : a'.tmps[39]? = some (.bool MH) := hG.at hF 1 39 (hA ⟨1, .data⟩ (by simp) rfl) rfl rfl
    have e41 : a'.tmps[41]? = some (.bool MH) := hG.at hF 3 41 (hA ⟨3, .data⟩ (by simp) rfl) rfl rfl
    clear hF hA
    go_simp
    exact hK _ _ (hG.next_val KPT rfl trivial (Below.refl _ _))
  · -- 5: plain
    intro L vs a' w' hA hF hG K hK
    have e42 : a'.tmps[42]? = some (.bool true) := hG.at hF 4 42 (hA ⟨4, .data⟩ (by simp) rfl) rfl rfl
    clear hF hA
    go_simp
    exact hK _ _ (hG.next_val KPT rfl trivial (Below.refl _ _))
  · -- 6: loadP
    intro L vs a' w' hA hF hG K hK
    have e3 : a'.tmps[3]? = some (.pointer (some ⟨pp, 0, none⟩)) := hF.old rfl (by kernel_rfl)
    have hblk := (hG.below.block pp (blk_lt HPB.out)).trans HPB.out
    have c0 : w'.cell? ⟨pp, 0, none⟩ = some (.string (mkS n0)) := blk_cell hblk 0
    have c1 : w'.cell? ⟨pp, 1, none⟩ = some (.int .i64 n1) := blk_cell hblk 1
    have c2 : w'.cell? ⟨pp, 2, none⟩ = some (.int .i64 n2) := blk_cell hblk 2
    have c3 : w'.cell? ⟨pp, 3, none⟩ = some (.int .i64 n3) := blk_cell hblk 3
    have c4 : w'.cell? ⟨pp, 4, none⟩ = some (.int .i64 n4) := blk_cell hblk 4
    have c5 : w'.cell? ⟨pp, 5, none⟩ = some (.int .i64 n5) := blk_cell hblk 5
    have c6 : w'.cell? ⟨pp, 6, none⟩ = some (.int .u8 (n6.toNat : Int)) := blk_cell hblk 6
    have c7 : w'.cell? ⟨pp, 7, none⟩ = some (.string (mkS n7)) := blk_cell hblk 7
    have c8 : w'.cell? ⟨pp, 8, none⟩ = some (.string (mkS n8)) := blk_cell hblk 8
    have c9 : w'.cell? ⟨pp, 9, none⟩ = some (.string (mkS n9)) := blk_cell hblk 9
    have c10 : w'.cell? ⟨pp, 10, none⟩ = some (.int .i64 n10) := blk_cell hblk 10
    have c11 : w'.cell? ⟨pp, 11, none⟩ = some (.int .i64 n11) := blk_cell hblk 11
    have c12 : w'.cell? ⟨pp, 12, none⟩ = some (.string (mkS n12)) := blk_cell hblk 12
    have lg := blk_lt hblk
    clear hblk
    clear hF hA
    go_simp
    exact hK _ _ (hG.next_val KPT rfl trivial (Below.refl _ _))
  · -- 7: call
    intro L vs a' w' hA hF hG K hK
    have e44 : a'.tmps[44]? = some (.agg #[.string (mkS n0), .int .i64 n1, .int .i64 n2, .int .i64 n3, .int .i64 n4, .int .i64 n5, .int .u8 (n6.toNat : Int), .string (mkS n7), .string (mkS n8), .string (mkS n9), .int .i64 n10, .int .i64 n11, .string (mkS n12)]) := hG.at hF 6 44 (hA ⟨6, .data⟩ (by simp) rfl) rfl rfl
    have hgw := HGB.out _ hG.below
    have HGW := Aside0.mk hgw
    clear hF hA hgw
    go_simp
    refine (HPUT.out _ HGW.out).mono ?_
    rintro e w2 ⟨rfl, hb⟩
    exact hK _ _ (hG.next_val KPT rfl trivial hb)
  · -- 8: loadP
    intro L vs a' w' hA hF hG K hK
    have e3 : a'.tmps[3]? = some (.pointer (some ⟨pp, 0, none⟩)) := hF.old rfl (by kernel_rfl)
    have hblk := (hG.below.block pp (blk_lt HPB.out)).trans HPB.out
    have c0 : w'.cell? ⟨pp, 0, none⟩ = some (.string (mkS n0)) := blk_cell hblk 0
    have c1 : w'.cell? ⟨pp, 1, none⟩ = some (.int .i64 n1) := blk_cell hblk 1
    have c2 : w'.cell? ⟨pp, 2, none⟩ = some (.int .i64 n2) := blk_cell hblk 2
    have c3 : w'.cell? ⟨pp, 3, none⟩ = some (.int .i64 n3) := blk_cell hblk 3
    have c4 : w'.cell? ⟨pp, 4, none⟩ = some (.int .i64 n4) := blk_cell hblk 4
    have c5 : w'.cell? ⟨pp, 5, none⟩ = some (.int .i64 n5) := blk_cell hblk 5
    have c6 : w'.cell? ⟨pp, 6, none⟩ = some (.int .u8 (n6.toNat : Int)) := blk_cell hblk 6
    have c7 : w'.cell? ⟨pp, 7, none⟩ = some (.string (mkS n7)) := blk_cell hblk 7
    have c8 : w'.cell? ⟨pp, 8, none⟩ = some (.string (mkS n8)) := blk_cell hblk 8
    have c9 : w'.cell? ⟨pp, 9, none⟩ = some (.string (mkS n9)) := blk_cell hblk 9
    have c10 : w'.cell? ⟨pp, 10, none⟩ = some (.int .i64 n10) := blk_cell hblk 10
    have c11 : w'.cell? ⟨pp, 11, none⟩ = some (.int .i64 n11) := blk_cell hblk 11
    have c12 : w'.cell? ⟨pp, 12, none⟩ = some (.string (mkS n12)) := blk_cell hblk 12
    have lg := blk_lt hblk
    clear hblk
    clear hF hA
    go_simp
    exact hK _ _ (hG.next_val KPT rfl trivial (Below.refl _ _))
  · -- 9: call
    intro L vs a' w' hA hF hG K hK
    have e46 : a'.tmps[46]? = some (.agg #[.string (mkS n0), .int .i64 n1, .int .i64 n2, .int .i64 n3, .int .i64 n4, .int .i64 n5, .int .u8 (n6.toNat : Int), .string (mkS n7), .string (mkS n8), .string (mkS n9), .int .i64 n10, .int .i64 n11, .string (mkS n12)]) := hG.at hF 8 46 (hA ⟨8, .data⟩ (by simp) rfl) rfl rfl
    have hgw := HGB.out _ hG.below
    have HGW := Aside0.mk hgw
    clear hF hA hgw
    go_simp
    refine (HRPUT.out _ HGW.out).mono ?_
    rintro e w2 ⟨rfl, hb⟩
    exact hK _ _ (hG.next_val KPT rfl trivial hb)
  · -- 10: eql
    intro L vs a' w' hA hF hG K hK
    have e45 : a'.tmps[45]? = some (.string (mkS PT)) := hG.at hF 7 45 (hA ⟨7, .data⟩ (by simp) rfl) rfl rfl
    have e47 : a'.tmps[47]? = some (.string (mkS PT)) := hG.at hF 9 47 (hA ⟨9, .data⟩ (by simp) rfl) rfl rfl
    clear hF hA
    go_simp
    exact hK _ _ (hG.next_val KPT rfl trivial (Below.refl _ _))
  · -- 11: plain
    intro L vs a' w' hA hF hG K hK
    have e43 : a'.tmps[43]? = some (.bool true) := hG.at hF 5 43 (hA ⟨5, .data⟩ (by simp) rfl) rfl rfl
    have e48 : a'.tmps[48]? = some (.bool true) := hG.at hF 10 48 (hA ⟨10, .data⟩ (by simp) rfl) rfl rfl
    clear hF hA
    go_simp
    exact hK _ _ (hG.next_val KPT rfl trivial (Below.refl _ _))
  · -- 12: plain
    intro L vs a' w' hA hF hG K hK
    have e49 : a'.tmps[49]? = some (.bool true) := hG.at hF 11 49 (hA ⟨11, .data⟩ (by simp) rfl) rfl rfl
    clear hF hA
    go_simp
    exact hK _ _ (hG.next_val KPT rfl trivial (Below.refl _ _))
  · -- 13: loadX
    intro L vs a' w' hA hF hG K hK
    have e7 : a'.tmps[7]? = some (.pointer (some ⟨px, 0, none⟩)) := hF.old rfl (by kernel_rfl)
    have hblk := (hG.below.block px (blk_lt HXB.out)).trans HXB.out
    have c0 : w'.cell? ⟨px, 0, none⟩ = some (.string (mkS m0)) := blk_cell hblk 0
    have c1 : w'.cell? ⟨px, 1, none⟩ = some (.int .i64 m1) := blk_cell hblk 1
    have c2 : w'.cell? ⟨px, 2, none⟩ = some (.int .i64 m2) := blk_cell hblk 2
    have c3 : w'.cell? ⟨px, 3, none⟩ = some (.int .i64 m3) := blk_cell hblk 3
    have c4 : w'.cell? ⟨px, 4, none⟩ = some (.int .i64 m4) := blk_cell hblk 4
    have c5 : w'.cell? ⟨px, 5, none⟩ = some (.int .i64 m5) := blk_cell hblk 5
    have c6 : w'.cell? ⟨px, 6, none⟩ = some (.int .u8 (m6.toNat : Int)) := blk_cell hblk 6
    have c7 : w'.cell? ⟨px, 7, none⟩ = some (.string (mkS m7)) := blk_cell hblk 7
    have c8 : w'.cell? ⟨px, 8, none⟩ = some (.string (mkS m8)) := blk_cell hblk 8
    have c9 : w'.cell? ⟨px, 9, none⟩ = some (.string (mkS m9)) := blk_cell hblk 9
    have c10 : w'.cell? ⟨px, 10, none⟩ = some (.int .i64 m10) := blk_cell hblk 10
    have c11 : w'.cell? ⟨px, 11, none⟩ = some (.int .i64 m11) := blk_cell hblk 11
    have c12 : w'.cell? ⟨px, 12, none⟩ = some (.string (mkS m12)) := blk_cell hblk 12
    have lg := blk_lt hblk
    clear hblk
    clear hF hA
    go_simp
    exact hK _ _ (hG.next_val KPT rfl trivial (Below.refl _ _))
  · -- 14: addrY
    intro L vs a' w' hA hF hG K hK
    have e9 : a'.tmps[9]? = some (.pointer (some ⟨py, 0, none⟩)) := hF.old rfl (by kernel_rfl)
    clear hF hA
    go_simp
    exact hK _ _ (hG.next_val KPT rfl trivial (Below.refl _ _))
  · -- 15: loadY
    intro L vs a' w' hA hF hG K hK
    have e52 : a'.tmps[52]? = some (.pointer (some ⟨py, 0, none⟩)) := hG.at hF 14 52 (hA ⟨14, .data⟩ (by simp) rfl) rfl rfl
    have hblk := (hG.below.block py (blk_lt HYB.out)).trans HYB.out
    have c0 : w'.cell? ⟨py, 0, none⟩ = some (.string (mkS m0)) := blk_cell hblk 0
    have c1 : w'.cell? ⟨py, 1, none⟩ = some (.int .i64 m1) := blk_cell hblk 1
    have c2 : w'.cell? ⟨py, 2, none⟩ = some (.int .i64 m2) := blk_cell hblk 2
    have c3 : w'.cell? ⟨py, 3, none⟩ = some (.int .i64 m3) := blk_cell hblk 3
    have c4 : w'.cell? ⟨py, 4, none⟩ = some (.int .i64 m4) := blk_cell hblk 4
    have c5 : w'.cell? ⟨py, 5, none⟩ = some (.int .i64 m5) := blk_cell hblk 5
    have c6 : w'.cell? ⟨py, 6, none⟩ = some (.int .u8 (m6.toNat : Int)) := blk_cell hblk 6
    have c7 : w'.cell? ⟨py, 7, none⟩ = some (.string (mkS m7)) := blk_cell hblk 7
    have c8 : w'.cell? ⟨py, 8, none⟩ = some (.string (mkS m8)) := blk_cell hblk 8
    have c9 : w'.cell? ⟨py, 9, none⟩ = some (.string (mkS m9)) := blk_cell hblk 9
    have c10 : w'.cell? ⟨py, 10, none⟩ = some (.int .i64 m10) := blk_cell hblk 10
    have c11 : w'.cell? ⟨py, 11, none⟩ = some (.int .i64 m11) := blk_cell hblk 11
    have c12 : w'.cell? ⟨py, 12, none⟩ = some (.string (mkS m12)) := blk_cell hblk 12
    have c13 : w'.cell? ⟨py, 13, none⟩ = some (.int .i64 En) := blk_cell hblk 13
    have lg := blk_lt hblk
    clear hblk
    clear hF hA
    go_simp
    exact hK _ _ (hG.next_val KPT rfl trivial (Below.refl _ _))
  · -- 16: eqlH
    intro L vs a' w' hA hF hG K hK
    have e51 : a'.tmps[51]? = some (.agg #[.string (mkS m0), .int .i64 m1, .int .i64 m2, .int .i64 m3, .int .i64 m4, .int .i64 m5, .int .u8 (m6.toNat : Int), .string (mkS m7), .string (mkS m8), .string (mkS m9), .int .i64 m10, .int .i64 m11, .string (mkS m12)]) := hG.at hF 13 51 (hA ⟨13, .data⟩ (by simp) rfl) rfl rfl
    have e53 : a'.tmps[53]? = some (.agg #[.string (mkS m0), .int .i64 m1, .int .i64 m2, .int .i64 m3, .int .i64 m4, .int .i64 m5, .int .u8 (m6.toNat : Int), .string (mkS m7), .string (mkS m8), .string (mkS m9), .int .i64 m10, .int .i64 m11, .string (mkS m12)]) := hG.at hF 15 53 (hA ⟨15, .data⟩ (by simp) rfl) rfl rfl
    have heq := HEQ.out
    clear hF hA
    go_simp
    exact hK _ _ (hG.next_val KPT rfl trivial (Below.refl _ _))
  · -- 17: plain
    intro L vs a' w' hA hF hG K hK
    have e50 : a'.tmps[50]? = some (.bool true) := hG.at hF 12 50 (hA ⟨12, .data⟩ (by simp) rfl) rfl rfl
    have e54 : a'.tmps[54]? = some (.bool true) := hG.at hF 16 54 (hA ⟨16, .data⟩ (by simp) rfl) rfl rfl
    clear hF hA
    go_simp
    exact hK _ _ (hG.next_val KPT rfl trivial (Below.refl _ _))
  · -- 18: plain
    intro L vs a' w' hA hF hG K hK
    have e55 : a'.tmps[55]? = some (.bool true) := hG.at hF 17 55 (hA ⟨17, .data⟩ (by simp) rfl) rfl rfl
    clear hF hA
    go_simp
    exact hK _ _ (hG.next_val KPT rfl trivial (Below.refl _ _))
  · -- 19: var
    intro L vs a' w' hA hF hG K hK
    have e8 : a'.tmps[8]? = some (.int .i64 En) := hF.old rfl (by kernel_rfl)
    clear hF hA
    go_simp
    exact hK _ _ (hG.next_val KPT rfl trivial (Below.refl _ _))
  · -- 20: call
    intro L vs a' w' hA hF hG K hK
    have e57 : a'.tmps[57]? = some (.int .i64 En) := hG.at hF 19 57 (hA ⟨19, .data⟩ (by simp) rfl) rfl rfl
    have hgw := HGB.out _ hG.below
    have HGW := Aside0.mk hgw
    clear hF hA hgw
    go_simp
    refine (HERR.out _ HGW.out).mono ?_
    rintro e w2 ⟨rfl, hb⟩
    exact hK _ _ (hG.next_val KPT rfl trivial hb)
  · -- 21: addrY
    intro L vs a' w' hA hF hG K hK
    have e9 : a'.tmps[9]? = some (.pointer (some ⟨py, 0, none⟩)) := hF.old rfl (by kernel_rfl)
    clear hF hA
    go_simp
    exact hK _ _ (hG.next_val KPT rfl trivial (Below.refl _ _))
  · -- 22: loadE
    intro L vs a' w' hA hF hG K hK
    have e59 : a'.tmps[59]? = some (.pointer (some ⟨py, 13, none⟩)) := hG.at hF 21 59 (hA ⟨21, .data⟩ (by simp) rfl) rfl rfl
    have hblk := (hG.below.block py (blk_lt HYB.out)).trans HYB.out
    have c0 : w'.cell? ⟨py, 0, none⟩ = some (.string (mkS m0)) := blk_cell hblk 0
    have c1 : w'.cell? ⟨py, 1, none⟩ = some (.int .i64 m1) := blk_cell hblk 1
    have c2 : w'.cell? ⟨py, 2, none⟩ = some (.int .i64 m2) := blk_cell hblk 2
    have c3 : w'.cell? ⟨py, 3, none⟩ = some (.int .i64 m3) := blk_cell hblk 3
    have c4 : w'.cell? ⟨py, 4, none⟩ = some (.int .i64 m4) := blk_cell hblk 4
    have c5 : w'.cell? ⟨py, 5, none⟩ = some (.int .i64 m5) := blk_cell hblk 5
    have c6 : w'.cell? ⟨py, 6, none⟩ = some (.int .u8 (m6.toNat : Int)) := blk_cell hblk 6
    have c7 : w'.cell? ⟨py, 7, none⟩ = some (.string (mkS m7)) := blk_cell hblk 7
    have c8 : w'.cell? ⟨py, 8, none⟩ = some (.string (mkS m8)) := blk_cell hblk 8
    have c9 : w'.cell? ⟨py, 9, none⟩ = some (.string (mkS m9)) := blk_cell hblk 9
    have c10 : w'.cell? ⟨py, 10, none⟩ = some (.int .i64 m10) := blk_cell hblk 10
    have c11 : w'.cell? ⟨py, 11, none⟩ = some (.int .i64 m11) := blk_cell hblk 11
    have c12 : w'.cell? ⟨py, 12, none⟩ = some (.string (mkS m12)) := blk_cell hblk 12
    have c13 : w'.cell? ⟨py, 13, none⟩ = some (.int .i64 En) := blk_cell hblk 13
    have lg := blk_lt hblk
    clear hblk
    clear hF hA
    go_simp
    exact hK _ _ (hG.next_val KPT rfl trivial (Below.refl _ _))
  · -- 23: plain
    intro L vs a' w' hA hF hG K hK
    have e58 : a'.tmps[58]? = some (.int .i64 En) := hG.at hF 20 58 (hA ⟨20, .data⟩ (by simp) rfl) rfl rfl
    have e60 : a'.tmps[60]? = some (.int .i64 En) := hG.at hF 22 60 (hA ⟨22, .data⟩ (by simp) rfl) rfl rfl
    clear hF hA
    go_simp
    exact hK _ _ (hG.next_val KPT rfl trivial (Below.refl _ _))
  · -- 24: plain
    intro L vs a' w' hA hF hG K hK
    have e56 : a'.tmps[56]? = some (.bool true) := hG.at hF 18 56 (hA ⟨18, .data⟩ (by simp) rfl) rfl rfl
    have e61 : a'.tmps[61]? = some (.bool true) := hG.at hF 23 61 (hA ⟨23, .data⟩ (by simp) rfl) rfl rfl
    clear hF hA
    go_simp
    exact hK _ _ (hG.next_val KPT rfl trivial (Below.refl _ _))
  · -- 25: plain
    intro L vs a' w' hA hF hG K hK
    have e62 : a'.tmps[62]? = some (.bool true) := hG.at hF 24 62 (hA ⟨24, .data⟩ (by simp) rfl) rfl rfl
    clear hF hA
    go_simp
    exact hK _ _ (hG.next_val KPT rfl trivial (Below.refl _ _))
  · -- 26: var
    intro L vs a' w' hA hF hG K hK
    have e10 : a'.tmps[10]? = some (.string (mkS sa)) := hF.old rfl (by kernel_rfl)
    clear hF hA
    go_simp
    exact hK _ _ (hG.next_val KPT rfl trivial (Below.refl _ _))
  · -- 27: addrQ
    intro L vs a' w' hA hF hG K hK
    have e13 : a'.tmps[13]? = some (.pointer (some ⟨pq, 0, none⟩)) := hF.old rfl (by kernel_rfl)
    clear hF hA
    go_simp
    exact hK _ _ (hG.next_val KPT rfl trivial (Below.refl _ _))
  · -- 28: loadQ0
    intro L vs a' w' hA hF hG K hK
    have e65 : a'.tmps[65]? = some (.pointer (some ⟨pq, 0, none⟩)) := hG.at hF 27 65 (hA ⟨27, .data⟩ (by simp) rfl) rfl rfl
    have hblk := (hG.below.block pq (blk_lt HQB.out)).trans HQB.out
    have c0 : w'.cell? ⟨pq, 0, none⟩ = some (.string (mkS sa)) := blk_cell hblk 0
    have c1 : w'.cell? ⟨pq, 1, none⟩ = some (.string (mkS sb)) := blk_cell hblk 1
    have c2 : w'.cell? ⟨pq, 2, none⟩ = some (.bool sc) := blk_cell hblk 2
    have lg := blk_lt hblk
    clear hblk
    clear hF hA
    go_simp
    exact hK _ _ (hG.next_val KPT rfl trivial (Below.refl _ _))
  · -- 29: plain
    intro L vs a' w' hA hF hG K hK
    have e64 : a'.tmps[64]? = some (.string (mkS sa)) := hG.at hF 26 64 (hA ⟨26, .data⟩ (by simp) rfl) rfl rfl
    have e66 : a'.tmps[66]? = some (.string (mkS sa)) := hG.at hF 28 66 (hA ⟨28, .data⟩ (by simp) rfl) rfl rfl
    clear hF hA
    go_simp
    exact hK _ _ (hG.next_val KPT rfl trivial (Below.refl _ _))
  · -- 30: plain
    intro L vs a' w' hA hF hG K hK
    have e63 : a'.tmps[63]? = some (.bool true) := hG.at hF 25 63 (hA ⟨25, .data⟩ (by simp) rfl) rfl rfl
    have e67 : a'.tmps[67]? = some (.bool true) := hG.at hF 29 67 (hA ⟨29, .data⟩ (by simp) rfl) rfl rfl
    clear hF hA
    go_simp
    exact hK _ _ (hG.next_val KPT rfl trivial (Below.refl _ _))
  · -- 31: plain
    intro L vs a' w' hA hF hG K hK
    have e68 : a'.tmps[68]? = some (.bool true) := hG.at hF 30 68 (hA ⟨30, .data⟩ (by simp) rfl) rfl rfl
    clear hF hA
    go_simp
    exact hK _ _ (hG.next_val KPT rfl trivial (Below.refl _ _))
  · -- 32: var
    intro L vs a' w' hA hF hG K hK
    have e11 : a'.tmps[11]? = some (.string (mkS sb)) := hF.old rfl (by kernel_rfl)
    clear hF hA
    go_simp
    exact hK _ _ (hG.next_val KPT rfl trivial (Below.refl _ _))
  · -- 33: addrQ
    intro L vs a' w' hA hF hG K hK
    have e13 : a'.tmps[13]? = some (.pointer (some ⟨pq, 0, none⟩)) := hF.old rfl (by kernel_rfl)
    clear hF hA
    go_simp
    exact hK _ _ (hG.next_val KPT rfl trivial (Below.refl _ _))
  · -- 34: loadQ1
    intro L vs a' w' hA hF hG K hK
    have e71 : a'.tmps[71]? = some (.pointer (some ⟨pq, 1, none⟩)) := hG.at hF 33 71 (hA ⟨33, .data⟩ (by simp) rfl) rfl rfl
    have hblk := (hG.below.block pq (blk_lt HQB.out)).trans HQB.out
    have c0 : w'.cell? ⟨pq, 0, none⟩ = some (.string (mkS sa)) := blk_cell hblk 0
    have c1 : w'.cell? ⟨pq, 1, none⟩ = some (.string (mkS sb)) := blk_cell hblk 1
    have c2 : w'.cell? ⟨pq, 2, none⟩ = some (.bool sc) := blk_cell hblk 2
    have lg := blk_lt hblk
    clear hblk
    clear hF hA
    go_simp
    exact hK _ _ (hG.next_val KPT rfl trivial (Below.refl _ _))
  · -- 35: plain
    intro L vs a' w' hA hF hG K hK
    have e70 : a'.tmps[70]? = some (.string (mkS sb)) := hG.at hF 32 70 (hA ⟨32, .data⟩ (by simp) rfl) rfl rfl
    have e72 : a'.tmps[72]? = some (.string (mkS sb)) := hG.at hF 34 72 (hA ⟨34, .data⟩ (by simp) rfl) rfl rfl
    clear hF hA
    go_simp
    exact hK _ _ (hG.next_val KPT rfl trivial (Below.refl _ _))
  · -- 36: plain
    intro L vs a' w' hA hF hG K hK
    have e69 : a'.tmps[69]? = some (.bool true) := hG.at hF 31 69 (hA ⟨31, .data⟩ (by simp) rfl) rfl rfl
    have e73 : a'.tmps[73]? = some (.bool true) := hG.at hF 35 73 (hA ⟨35, .data⟩ (by simp) rfl) rfl rfl
    clear hF hA
    go_simp
    exact hK _ _ (hG.next_val KPT rfl trivial (Below.refl _ _))
  · -- 37: plain
    intro L vs a' w' hA hF hG K hK
    have e74 : a'.tmps[74]? = some (.bool true) := hG.at hF 36 74 (hA ⟨36, .data⟩ (by simp) rfl) rfl rfl
    clear hF hA
    go_simp
    exact hK _ _ (hG.next_val KPT rfl trivial (Below.refl _ _))
  · -- 38: var
    intro L vs a' w' hA hF hG K hK
    have e12 : a'.tmps[12]? = some (.bool sc) := hF.old rfl (by kernel_rfl)
    clear hF hA
    go_simp
    exact hK _ _ (hG.next_val KPT rfl trivial (Below.refl _ _))
  · -- 39: addrQ
    intro L vs a' w' hA hF hG K hK
    have e13 : a'.tmps[13]? = some (.pointer (some ⟨pq, 0, none⟩)) := hF.old rfl (by kernel_rfl)
    clear hF hA
    go_simp
    exact hK _ _ (hG.next_val KPT rfl trivial (Below.refl _ _))
  · -- 40: loadQ2
    intro L vs a' w' hA hF hG K hK
    have e77 : a'.tmps[77]? = some (.pointer (some ⟨pq, 2, none⟩)) := hG.at hF 39 77 (hA ⟨39, .data⟩ (by simp) rfl) rfl rfl
    have hblk := (hG.below.block pq (blk_lt HQB.out)).trans HQB.out
    have c0 : w'.cell? ⟨pq, 0, none⟩ = some (.string (mkS sa)) := blk_cell hblk 0
    have c1 : w'.cell? ⟨pq, 1, none⟩ = some (.string (mkS sb)) := blk_cell hblk 1
    have c2 : w'.cell? ⟨pq, 2, none⟩ = some (.bool sc) := blk_cell hblk 2
    have lg := blk_lt hblk
    clear hblk
    clear hF hA
    go_simp
    exact hK _ _ (hG.next_val KPT rfl trivial (Below.refl _ _))
  · -- 41: plain
    intro L vs a' w' hA hF hG K hK
    have e76 : a'.tmps[76]? = some (.bool sc) := hG.at hF 38 76 (hA ⟨38, .data⟩ (by simp) rfl) rfl rfl
    have e78 : a'.tmps[78]? = some (.bool sc) := hG.at hF 40 78 (hA ⟨40, .data⟩ (by simp) rfl) rfl rfl
    clear hF hA
    go_simp
    exact hK _ _ (hG.next_val KPT rfl trivial (Below.refl _ _))
  · -- 42: plain
    intro L vs a' w' hA hF hG K hK
    have e75 : a'.tmps[75]? = some (.bool true) := hG.at hF 37 75 (hA ⟨37, .data⟩ (by simp) rfl) rfl rfl
    have e79 : a'.tmps[79]? = some (.bool true) := hG.at hF 41 79 (hA ⟨41, .data⟩ (by simp) rfl) rfl rfl
    clear hF hA
    go_simp
    exact hK _ _ (hG.next_val KPT rfl trivial (Below.refl _ _))
  · -- 43: plain
    intro L vs a' w' hA hF hG K hK
    have e80 : a'.tmps[80]? = some (.bool true) := hG.at hF 42 80 (hA ⟨42, .data⟩ (by simp) rfl) rfl rfl
    clear hF hA
    go_simp
    exact hK _ _ (hG.next_val KPT rfl trivial (Below.refl _ _))
  · -- 44: loadP
    intro L vs a' w' hA hF hG K hK
    have e3 : a'.tmps[3]? = some (.pointer (some ⟨pp, 0, none⟩)) := hF.old rfl (by kernel_rfl)
    have hblk := (hG.below.block pp (blk_lt HPB.out)).trans HPB.out
    have c0 : w'.cell? ⟨pp, 0, none⟩ = some (.string (mkS n0)) := blk_cell hblk 0
    have c1 : w'.cell? ⟨pp, 1, none⟩ = some (.int .i64 n1) := blk_cell hblk 1
    have c2 : w'.cell? ⟨pp, 2, none⟩ = some (.int .i64 n2) := blk_cell hblk 2
    have c3 : w'.cell? ⟨pp, 3, none⟩ = some (.int .i64 n3) := blk_cell hblk 3
    have c4 : w'.cell? ⟨pp, 4, none⟩ = some (.int .i64 n4) := blk_cell hblk 4
    have c5 : w'.cell? ⟨pp, 5, none⟩ = some (.int .i64 n5) := blk_cell hblk 5
    have c6 : w'.cell? ⟨pp, 6, none⟩ = some (.int .u8 (n6.toNat : Int)) := blk_cell hblk 6
    have c7 : w'.cell? ⟨pp, 7, none⟩ = some (.string (mkS n7)) := blk_cell hblk 7
    have c8 : w'.cell? ⟨pp, 8, none⟩ = some (.string (mkS n8)) := blk_cell hblk 8
    have c9 : w'.cell? ⟨pp, 9, none⟩ = some (.string (mkS n9)) := blk_cell hblk 9
    have c10 : w'.cell? ⟨pp, 10, none⟩ = some (.int .i64 n10) := blk_cell hblk 10
    have c11 : w'.cell? ⟨pp, 11, none⟩ = some (.int .i64 n11) := blk_cell hblk 11
    have c12 : w'.cell? ⟨pp, 12, none⟩ = some (.string (mkS n12)) := blk_cell hblk 12
    have lg := blk_lt hblk
    clear hblk
    clear hF hA
    go_simp
    exact hK _ _ (hG.next_val KPT rfl trivial (Below.refl _ _))
  · -- 45: call
    intro L vs a' w' hA hF hG K hK
    have e82 : a'.tmps[82]? = some (.agg #[.string (mkS n0), .int .i64 n1, .int .i64 n2, .int .i64 n3, .int .i64 n4, .int .i64 n5, .int .u8 (n6.toNat : Int), .string (mkS n7), .string (mkS n8), .string (mkS n9), .int .i64 n10, .int .i64 n11, .string (mkS n12)]) := hG.at hF 44 82 (hA ⟨44, .data⟩ (by simp) rfl) rfl rfl
    have hgw := HGB.out _ hG.below
    have HGW := Aside0.mk hgw
    clear hF hA hgw
    go_simp
    refine (HJ.out _ HGW.out).mono ?_
    rintro e w2 ⟨rfl, hb⟩
    exact hK _ _ (hG.next_val KPT rfl trivial hb)
  · -- 46: loadP
    intro L vs a' w' hA hF hG K hK
    have e3 : a'.tmps[3]? = some (.pointer (some ⟨pp, 0, none⟩)) := hF.old rfl (by kernel_rfl)
    have hblk := (hG.below.block pp (blk_lt HPB.out)).trans HPB.out
    have c0 : w'.cell? ⟨pp, 0, none⟩ = some (.string (mkS n0)) := blk_cell hblk 0
    have c1 : w'.cell? ⟨pp, 1, none⟩ = some (.int .i64 n1) := blk_cell hblk 1
    have c2 : w'.cell? ⟨pp, 2, none⟩ = some (.int .i64 n2) := blk_cell hblk 2
    have c3 : w'.cell? ⟨pp, 3, none⟩ = some (.int .i64 n3) := blk_cell hblk 3
    have c4 : w'.cell? ⟨pp, 4, none⟩ = some (.int .i64 n4) := blk_cell hblk 4
    have c5 : w'.cell? ⟨pp, 5, none⟩ = some (.int .i64 n5) := blk_cell hblk 5
    have c6 : w'.cell? ⟨pp, 6, none⟩ = some (.int .u8 (n6.toNat : Int)) := blk_cell hblk 6
    have c7 : w'.cell? ⟨pp, 7, none⟩ = some (.string (mkS n7)) := blk_cell hblk 7
    have c8 : w'.cell? ⟨pp, 8, none⟩ = some (.string (mkS n8)) := blk_cell hblk 8
    have c9 : w'.cell? ⟨pp, 9, none⟩ = some (.string (mkS n9)) := blk_cell hblk 9
    have c10 : w'.cell? ⟨pp, 10, none⟩ = some (.int .i64 n10) := blk_cell hblk 10
    have c11 : w'.cell? ⟨pp, 11, none⟩ = some (.int .i64 n11) := blk_cell hblk 11
    have c12 : w'.cell? ⟨pp, 12, none⟩ = some (.string (mkS n12)) := blk_cell hblk 12
    have lg := blk_lt hblk
    clear hblk
    clear hF hA
    go_simp
    exact hK _ _ (hG.next_val KPT rfl trivial (Below.refl _ _))
  · -- 47: call
    intro L vs a' w' hA hF hG K hK
    have e84 : a'.tmps[84]? = some (.agg #[.string (mkS n0), .int .i64 n1, .int .i64 n2, .int .i64 n3, .int .i64 n4, .int .i64 n5, .int .u8 (n6.toNat : Int), .string (mkS n7), .string (mkS n8), .string (mkS n9), .int .i64 n10, .int .i64 n11, .string (mkS n12)]) := hG.at hF 46 84 (hA ⟨46, .data⟩ (by simp) rfl) rfl rfl
    have hgw := HGB.out _ hG.below
    have HGW := Aside0.mk hgw
    clear hF hA hgw
    go_simp
    refine (HRJ.out _ HGW.out).mono ?_
    rintro e w2 ⟨rfl, hb⟩
    exact hK _ _ (hG.next_val KPT rfl trivial hb)
  · -- 48: eql
    intro L vs a' w' hA hF hG K hK
    have e83 : a'.tmps[83]? = some (.string (mkS JT)) := hG.at hF 45 83 (hA ⟨45, .data⟩ (by simp) rfl) rfl rfl
    have e85 : a'.tmps[85]? = some (.string (mkS JT)) := hG.at hF 47 85 (hA ⟨47, .data⟩ (by simp) rfl) rfl rfl
    clear hF hA
    go_simp
    exact hK _ _ (hG.next_val KPT rfl trivial (Below.refl _ _))
  · -- 49: plain
    intro L vs a' w' hA hF hG K hK
    have e81 : a'.tmps[81]? = some (.bool true) := hG.at hF 43 81 (hA ⟨43, .data⟩ (by simp) rfl) rfl rfl
    have e86 : a'.tmps[86]? = some (.bool true) := hG.at hF 48 86 (hA ⟨48, .data⟩ (by simp) rfl) rfl rfl
    clear hF hA
    go_simp
    exact hK _ _ (hG.next_val KPT rfl trivial (Below.refl _ _))
  · -- 50: plain
    intro L vs a' w' hA hF hG K hK
    have e87 : a'.tmps[87]? = some (.bool true) := hG.at hF 49 87 (hA ⟨49, .data⟩ (by simp) rfl) rfl rfl
    clear hF hA
    go_simp
    exact hK _ _ (hG.next_val KPT rfl trivial (Below.refl _ _))
  · -- 51: call
    intro L vs a' w' hA hF hG K hK
    have hgw := HGB.out _ hG.below
    have HGW := Aside0.mk hgw
    clear hF hA hgw
    go_simp
    refine (HAW.out _ HGW.out).mono ?_
    rintro e w2 ⟨rfl, hb⟩
    exact hK _ _ (hG.next_val KPT rfl trivial hb)
  · -- 52: plain
    intro L vs a' w' hA hF hG K hK
    have e88 : a'.tmps[88]? = some (.bool true) := hG.at hF 50 88 (hA ⟨50, .data⟩ (by simp) rfl) rfl rfl
    have e89 : a'.tmps[89]? = some (.bool true) := hG.at hF 51 89 (hA ⟨51, .data⟩ (by simp) rfl) rfl rfl
    clear hF hA
    go_simp
    exact hK _ _ (hG.next_val KPT rfl trivial (Below.refl _ _))
  · -- 53: plain
    intro L vs a' w' hA hF hG K hK
    have e90 : a'.tmps[90]? = some (.bool true) := hG.at hF 52 90 (hA ⟨52, .data⟩ (by simp) rfl) rfl rfl
    clear hF hA
    go_simp
    exact hK _ _ (hG.next_val KPT rfl trivial (Below.refl _ _))
  intro vs W9 hB9 _
  simp only [putL, Act.put, List.setIfInBounds_toArray, List.set_cons_zero, List.set_cons_succ]
  go_wp2_with fail
  go_ret
  exact ⟨rfl, BE.out _ hB9⟩
theorem headAll_walk (h : Hd) (s path : ByteArray) (w : World) (hG : Good w) (hf : Fits h) :
    Calls Tryz.prog 3 #[.agg (hdCells h), .string s, .string path] w fun e w' => e = .returned (.bool true) ∧ Below w.heap.size w w' := by
  obtain ⟨s, rfl⟩ := exists_mkS s
  obtain ⟨path, rfl⟩ := exists_mkS path
  by_cases hg : 1100 < s.length ∨ 600 < path.length
  · exact headAll_far h s path w hG hg
  · exact headAll_main h s path w hG hf (by omega) (by omega)
theorem headAll_row (a0 : ByteArray) (a1 a2 a3 a4 a5 a6 : Int) (a7 a8 a9 : ByteArray) (a10 a11 : Int) (a12 s path : ByteArray) (w : World) (hG : Good w)
    (z0 : a0.size ≤ 140737488351232) (z1 : -9223372036854775808 ≤ a1 ∧ a1 ≤ 9223372036854775807) (z2 : -9223372036854775808 ≤ a2 ∧ a2 ≤ 9223372036854775807) (z3 : -9223372036854775808 ≤ a3 ∧ a3 ≤ 9223372036854775807) (z4 : -9223372036854775808 ≤ a4 ∧ a4 ≤ 9223372036854775807) (z5 : -9223372036854775808 ≤ a5 ∧ a5 ≤ 9223372036854775807) (z6 : 0 ≤ a6 ∧ a6 ≤ 255)
    (z7 : a7.size ≤ 140737488351232) (z8 : a8.size ≤ 140737488351232) (z9 : a9.size ≤ 140737488351232) (z10 : -9223372036854775808 ≤ a10 ∧ a10 ≤ 9223372036854775807) (z11 : -9223372036854775808 ≤ a11 ∧ a11 ≤ 9223372036854775807) (z12 : a12.size ≤ 140737488351232) :
    Calls Tryz.prog 3 #[.agg #[.string a0, .int .i64 a1, .int .i64 a2, .int .i64 a3, .int .i64 a4, .int .i64 a5, .int .u8 a6, .string a7, .string a8, .string a9, .int .i64 a10, .int .i64 a11, .string a12], .string s, .string path] w fun e w' => e = .returned (.bool true) ∧ Below w.heap.size w w' := by
  obtain ⟨a0, rfl⟩ := exists_mkS a0
  obtain ⟨a7, rfl⟩ := exists_mkS a7
  obtain ⟨a8, rfl⟩ := exists_mkS a8
  obtain ⟨a9, rfl⟩ := exists_mkS a9
  obtain ⟨a12, rfl⟩ := exists_mkS a12
  obtain ⟨t, rfl⟩ : ∃ x : UInt8, (x.toNat : Int) = a6 := ⟨UInt8.ofNat a6.toNat, by simp; omega⟩
  rw [size_mkS] at z0 z7 z8 z9 z12
  exact headAll_walk ⟨a0, a1, a2, a3, a4, a5, t, a7, a8, a9, a10, a11, a12⟩ s path w hG ⟨⟨z1, z2, z3, z4, z5, z10, z11⟩, z0, z7, z8, z9, z12⟩
end Go.Proofs.YtpmiddhdgidimaaGreatDoor
