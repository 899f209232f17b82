/- rec.read: the record that bytes begin with, a theorem for each way. (Printed by genread.py.) -/
import Derived.Test.YtldimdlobgnnpaaDoorRecCalls
set_option linter.unusedVariables false
set_option linter.unusedSimpArgs false
namespace Go.Proofs.YtldimdlobgnnpaaDoor
open Go.RowKit Go.Proofs.YtldimdlobgnnpaaDoorW.PrintWords

theorem cutAt_len (c : UInt8) (l : List UInt8) : (cutAt c l).1.length ≤ l.length ∧ (cutAt c l).2.1.length ≤ l.length := by
  induction l with
  | nil => simp [cutAt]
  | cons b l ih =>
    simp only [cutAt]
    split
    · simp
    · simp; omega
set_option maxHeartbeats 1000000 in
set_option maxRecDepth 100000 in
theorem read_a (s ds rs : List UInt8) (at_ : Int) (w : World) (hG : Good w) (hs : s.length ≤ 1000000) (h1 : cutAt 32 (s.take 8) = (ds, rs, false)) :
    Calls Tryd.prog 24 #[.string (mkS s), .int .i64 at_] w fun e w' => e = .panicked (Chain 53 (.agg #[.int .i64 at_])) ∧ Below w.heap.size w w' := by
  have hsl := slice_to s (min (s.length : Int) 8) (by omega) (by omega)
  rw [show (min (s.length : Int) 8).toNat = min s.length 8 by omega, show s.take (min s.length 8) = s.take 8 by rw [List.take_eq_take_iff]; omega] at hsl
  have H1 := Aside0.mk h1
  clear h1
  have HBW := Aside0.mk (below_alloc (Below.refl w.heap.size w) (.cells #[.string ⟨#[]⟩, .string ⟨#[]⟩] 25))
  have HG := Aside0.mk (hG.below HBW.out)
  clear hG
  have HB0 := Aside0.mk (Below.refl (w.alloc (.cells #[.string ⟨#[]⟩, .string ⟨#[]⟩] 25)).heap.size (w.alloc (.cells #[.string ⟨#[]⟩, .string ⟨#[]⟩] 25)))
  go_enter Tryd.func24, Tryd.ntmps24
  go_wp2_with (first
    | ((with_reducible refine (cut_any (s.take 8) 32 ds rs false H1.out _ (HG.out.below HB0.out) (by rw [List.length_take]; omega)).mono ?_); rintro e w1 ⟨rfl, hb1⟩; have HB1 := Aside0.mk (below_next HB0.out hb1))
    | ((with_reducible refine (must_bad _ _).mono ?_); rintro e wm ⟨rfl, rfl⟩))
  exact ⟨rfl, rfl, below_next HBW.out HB1.out⟩
set_option maxHeartbeats 1000000 in
set_option maxRecDepth 100000 in
theorem read_b (s rs : List UInt8) (at_ : Int) (w : World) (hG : Good w) (hs : s.length ≤ 1000000) (h1 : cutAt 32 (s.take 8) = ([], rs, true)) :
    Calls Tryd.prog 24 #[.string (mkS s), .int .i64 at_] w fun e w' => e = .panicked (Chain 53 (.agg #[.int .i64 at_])) ∧ Below w.heap.size w w' := by
  have hsl := slice_to s (min (s.length : Int) 8) (by omega) (by omega)
  rw [show (min (s.length : Int) 8).toNat = min s.length 8 by omega, show s.take (min s.length 8) = s.take 8 by rw [List.take_eq_take_iff]; omega] at hsl
  have H1 := Aside0.mk h1
  clear h1
  have HBW := Aside0.mk (below_alloc (Below.refl w.heap.size w) (.cells #[.string ⟨#[]⟩, .string ⟨#[]⟩] 25))
  have HG := Aside0.mk (hG.below HBW.out)
  clear hG
  have HB0 := Aside0.mk (Below.refl (w.alloc (.cells #[.string ⟨#[]⟩, .string ⟨#[]⟩] 25)).heap.size (w.alloc (.cells #[.string ⟨#[]⟩, .string ⟨#[]⟩] 25)))
  go_enter Tryd.func24, Tryd.ntmps24
  go_wp2_with (first
    | ((with_reducible refine (cut_any (s.take 8) 32 [] rs true H1.out _ (HG.out.below HB0.out) (by rw [List.length_take]; omega)).mono ?_); rintro e w1 ⟨rfl, hb1⟩; have HB1 := Aside0.mk (below_next HB0.out hb1))
    | ((with_reducible refine (must_bad _ _).mono ?_); rintro e wm ⟨rfl, rfl⟩))
  exact ⟨rfl, rfl, below_next HBW.out HB1.out⟩
set_option maxHeartbeats 1000000 in
set_option maxRecDepth 100000 in
theorem read_c (s ds rs t : List UInt8) (at_ : Int) (w : World) (hG : Good w) (hs : s.length ≤ 1000000) (h1 : cutAt 32 (s.take 8) = (ds, rs, true)) (hd : ¬ ds = []) (h2 : Lib.trimS ds digL = t) (ht : ¬ t = []) :
    Calls Tryd.prog 24 #[.string (mkS s), .int .i64 at_] w fun e w' => e = .panicked (Chain 53 (.agg #[.int .i64 at_])) ∧ Below w.heap.size w w' := by
  have hsl := slice_to s (min (s.length : Int) 8) (by omega) (by omega)
  rw [show (min (s.length : Int) 8).toNat = min s.length 8 by omega, show s.take (min s.length 8) = s.take 8 by rw [List.take_eq_take_iff]; omega] at hsl
  have hde : ds.isEmpty = false := by cases ds <;> simp_all
  have hte : t.isEmpty = false := by cases t <;> simp_all
  have hl8 : ds.length ≤ 8 := by have := (cutAt_len 32 (s.take 8)).1; rw [h1, List.length_take] at this; simp only at this; omega
  have H1 := Aside0.mk h1
  clear h1
  have H2 := Aside0.mk h2
  clear h2
  have HBW := Aside0.mk (below_alloc (Below.refl w.heap.size w) (.cells #[.string ⟨#[]⟩, .string ⟨#[]⟩] 25))
  have HG := Aside0.mk (hG.below HBW.out)
  clear hG
  have HB0 := Aside0.mk (Below.refl (w.alloc (.cells #[.string ⟨#[]⟩, .string ⟨#[]⟩] 25)).heap.size (w.alloc (.cells #[.string ⟨#[]⟩, .string ⟨#[]⟩] 25)))
  go_enter Tryd.func24, Tryd.ntmps24
  go_wp2_with (first
    | ((with_reducible refine (cut_any (s.take 8) 32 ds rs true H1.out _ (HG.out.below HB0.out) (by rw [List.length_take]; omega)).mono ?_); rintro e w1 ⟨rfl, hb1⟩; have HB1 := Aside0.mk (below_next HB0.out hb1))
    | (go_at_call 33; refine (trim_any ds t H2.out _ (by omega)).mono ?_; rintro e w2 ⟨rfl, hb2⟩; have HB2 := Aside0.mk (below_next HB1.out hb2))
    | ((with_reducible refine (must_bad _ _).mono ?_); rintro e wm ⟨rfl, rfl⟩))
  exact ⟨rfl, rfl, below_next HBW.out HB2.out⟩
set_option maxHeartbeats 1000000 in
set_option maxRecDepth 100000 in
theorem read_d (s ds rs : List UInt8) (at_ : Int) (w : World) (hG : Good w) (hs : s.length ≤ 1000000) (h1 : cutAt 32 (s.take 8) = (ds, rs, true)) (hd : ¬ ds = []) (h2 : Lib.trimS ds digL = []) (h3 : ∀ v, Lib.atoiAll ds ≠ .ok v) :
    Calls Tryd.prog 24 #[.string (mkS s), .int .i64 at_] w fun e w' => e = .panicked (Chain 53 (.agg #[.int .i64 at_])) ∧ Below w.heap.size w w' := by
  have hsl := slice_to s (min (s.length : Int) 8) (by omega) (by omega)
  rw [show (min (s.length : Int) 8).toNat = min s.length 8 by omega, show s.take (min s.length 8) = s.take 8 by rw [List.take_eq_take_iff]; omega] at hsl
  have hde : ds.isEmpty = false := by cases ds <;> simp_all
  have hl8 : ds.length ≤ 8 := by have := (cutAt_len 32 (s.take 8)).1; rw [h1, List.length_take] at this; simp only at this; omega
  have H1 := Aside0.mk h1
  clear h1
  have H2 := Aside0.mk h2
  clear h2
  have H3 := Aside0.mk h3
  clear h3
  have HBW := Aside0.mk (below_alloc (Below.refl w.heap.size w) (.cells #[.string ⟨#[]⟩, .string ⟨#[]⟩] 25))
  have HG := Aside0.mk (hG.below HBW.out)
  clear hG
  have HB0 := Aside0.mk (Below.refl (w.alloc (.cells #[.string ⟨#[]⟩, .string ⟨#[]⟩] 25)).heap.size (w.alloc (.cells #[.string ⟨#[]⟩, .string ⟨#[]⟩] 25)))
  go_enter Tryd.func24, Tryd.ntmps24
  go_wp2_with (first
    | ((with_reducible refine (cut_any (s.take 8) 32 ds rs true H1.out _ (HG.out.below HB0.out) (by rw [List.length_take]; omega)).mono ?_); rintro e w1 ⟨rfl, hb1⟩; have HB1 := Aside0.mk (below_next HB0.out hb1))
    | (go_at_call 33; refine (trim_any ds [] H2.out _ (by omega)).mono ?_; rintro e w2 ⟨rfl, hb2⟩; have HB2 := Aside0.mk (below_next HB1.out hb2))
    | (go_at_call 34; refine (atoi_bad (mkS ds) _ (HG.out.below HB2.out) (by rw [size_mkS]; omega) (by rw [data_mkS]; exact H3.out)).mono ?_; rintro e w3 ⟨⟨v3, te3, p3, rfl⟩, hb3⟩; have HB3 := Aside0.mk (below_next HB2.out hb3))
    | ((with_reducible refine (must_bad _ _).mono ?_); rintro e wm ⟨rfl, rfl⟩)
    | ((with_reducible refine (must_ok _ _).mono ?_); rintro e wm ⟨rfl, rfl⟩))
  exact ⟨rfl, rfl, below_next HBW.out HB3.out⟩
set_option maxHeartbeats 1000000 in
set_option maxRecDepth 100000 in
theorem read_e (s ds rs : List UInt8) (at_ n : Int) (w : World) (hG : Good w) (hs : s.length ≤ 1000000) (h1 : cutAt 32 (s.take 8) = (ds, rs, true)) (hd : ¬ ds = []) (h2 : Lib.trimS ds digL = []) (h3 : Lib.atoiAll ds = .ok n) (h4 : n ≤ (ds.length : Int))  :
    Calls Tryd.prog 24 #[.string (mkS s), .int .i64 at_] w fun e w' => e = .panicked (Chain 53 (.agg #[.int .i64 at_])) ∧ Below w.heap.size w w' := by
  have hsl := slice_to s (min (s.length : Int) 8) (by omega) (by omega)
  rw [show (min (s.length : Int) 8).toNat = min s.length 8 by omega, show s.take (min s.length 8) = s.take 8 by rw [List.take_eq_take_iff]; omega] at hsl
  have hde : ds.isEmpty = false := by cases ds <;> simp_all
  have hl8 : ds.length ≤ 8 := by have := (cutAt_len 32 (s.take 8)).1; rw [h1, List.length_take] at this; simp only at this; omega
  have H1 := Aside0.mk h1
  clear h1
  have H2 := Aside0.mk h2
  clear h2
  have H3 := Aside0.mk h3
  clear h3
  have HBW := Aside0.mk (below_alloc (Below.refl w.heap.size w) (.cells #[.string ⟨#[]⟩, .string ⟨#[]⟩] 25))
  have HG := Aside0.mk (hG.below HBW.out)
  clear hG
  have HB0 := Aside0.mk (Below.refl (w.alloc (.cells #[.string ⟨#[]⟩, .string ⟨#[]⟩] 25)).heap.size (w.alloc (.cells #[.string ⟨#[]⟩, .string ⟨#[]⟩] 25)))
  go_enter Tryd.func24, Tryd.ntmps24
  go_wp2_with (first
    | ((with_reducible refine (cut_any (s.take 8) 32 ds rs true H1.out _ (HG.out.below HB0.out) (by rw [List.length_take]; omega)).mono ?_); rintro e w1 ⟨rfl, hb1⟩; have HB1 := Aside0.mk (below_next HB0.out hb1))
    | (go_at_call 33; refine (trim_any ds [] H2.out _ (by omega)).mono ?_; rintro e w2 ⟨rfl, hb2⟩; have HB2 := Aside0.mk (below_next HB1.out hb2))
    | (go_at_call 34; refine (atoi_ok (mkS ds) n _ (by rw [size_mkS]; omega) (by rw [data_mkS]; exact H3.out)).mono ?_; rintro e w3 ⟨rfl, hb3⟩; have HB3 := Aside0.mk (below_next HB2.out hb3))
    | ((with_reducible refine (must_bad _ _).mono ?_); rintro e wm ⟨rfl, rfl⟩)
    | ((with_reducible refine (must_ok _ _).mono ?_); rintro e wm ⟨rfl, rfl⟩))
  exact ⟨rfl, rfl, below_next HBW.out HB3.out⟩
set_option maxHeartbeats 1000000 in
set_option maxRecDepth 100000 in
theorem read_f (s ds rs : List UInt8) (at_ n : Int) (w : World) (hG : Good w) (hs : s.length ≤ 1000000) (h1 : cutAt 32 (s.take 8) = (ds, rs, true)) (hd : ¬ ds = []) (h2 : Lib.trimS ds digL = []) (h3 : Lib.atoiAll ds = .ok n) (h4 : (ds.length : Int) < n) (h5 : (s.length : Int) < n)  :
    Calls Tryd.prog 24 #[.string (mkS s), .int .i64 at_] w fun e w' => e = .panicked (Chain 53 (.agg #[.int .i64 at_])) ∧ Below w.heap.size w w' := by
  have hsl := slice_to s (min (s.length : Int) 8) (by omega) (by omega)
  rw [show (min (s.length : Int) 8).toNat = min s.length 8 by omega, show s.take (min s.length 8) = s.take 8 by rw [List.take_eq_take_iff]; omega] at hsl
  have hde : ds.isEmpty = false := by cases ds <;> simp_all
  have hl8 : ds.length ≤ 8 := by have := (cutAt_len 32 (s.take 8)).1; rw [h1, List.length_take] at this; simp only at this; omega
  have H1 := Aside0.mk h1
  clear h1
  have H2 := Aside0.mk h2
  clear h2
  have H3 := Aside0.mk h3
  clear h3
  have hb5 : decide (n ≤ (s.length : Int)) = false := decide_eq_false (by omega)
  have HBW := Aside0.mk (below_alloc (Below.refl w.heap.size w) (.cells #[.string ⟨#[]⟩, .string ⟨#[]⟩] 25))
  have HG := Aside0.mk (hG.below HBW.out)
  clear hG
  have HB0 := Aside0.mk (Below.refl (w.alloc (.cells #[.string ⟨#[]⟩, .string ⟨#[]⟩] 25)).heap.size (w.alloc (.cells #[.string ⟨#[]⟩, .string ⟨#[]⟩] 25)))
  go_enter Tryd.func24, Tryd.ntmps24
  go_wp2_with (first
    | ((with_reducible refine (cut_any (s.take 8) 32 ds rs true H1.out _ (HG.out.below HB0.out) (by rw [List.length_take]; omega)).mono ?_); rintro e w1 ⟨rfl, hb1⟩; have HB1 := Aside0.mk (below_next HB0.out hb1))
    | (go_at_call 33; refine (trim_any ds [] H2.out _ (by omega)).mono ?_; rintro e w2 ⟨rfl, hb2⟩; have HB2 := Aside0.mk (below_next HB1.out hb2))
    | (go_at_call 34; refine (atoi_ok (mkS ds) n _ (by rw [size_mkS]; omega) (by rw [data_mkS]; exact H3.out)).mono ?_; rintro e w3 ⟨rfl, hb3⟩; have HB3 := Aside0.mk (below_next HB2.out hb3))
    | ((with_reducible refine (must_bad _ _).mono ?_); rintro e wm ⟨rfl, rfl⟩)
    | ((with_reducible refine (must_ok _ _).mono ?_); rintro e wm ⟨rfl, rfl⟩))
  exact ⟨rfl, rfl, below_next HBW.out HB3.out⟩
set_option maxHeartbeats 1000000 in
set_option maxRecDepth 100000 in
theorem read_g (s ds rs k v : List UInt8) (at_ n : Int) (w : World) (hG : Good w) (hs : s.length ≤ 1000000) (h1 : cutAt 32 (s.take 8) = (ds, rs, true)) (hd : ¬ ds = []) (h2 : Lib.trimS ds digL = []) (h3 : Lib.atoiAll ds = .ok n) (h4 : (ds.length : Int) < n) (h5 : n ≤ (s.length : Int)) (h6 : cutAt 61 ((s.take n.toNat).drop (ds.length + 1)) = (k, v, false))  :
    Calls Tryd.prog 24 #[.string (mkS s), .int .i64 at_] w fun e w' => e = .panicked (Chain 53 (.agg #[.int .i64 at_])) ∧ Below w.heap.size w w' := by
  have hsl := slice_to s (min (s.length : Int) 8) (by omega) (by omega)
  rw [show (min (s.length : Int) 8).toNat = min s.length 8 by omega, show s.take (min s.length 8) = s.take 8 by rw [List.take_eq_take_iff]; omega] at hsl
  have hde : ds.isEmpty = false := by cases ds <;> simp_all
  have hl8 : ds.length ≤ 8 := by have := (cutAt_len 32 (s.take 8)).1; rw [h1, List.length_take] at this; simp only at this; omega
  have H1 := Aside0.mk h1
  clear h1
  have hsl2 := slice_mid s ((ds.length : Int) + 1) n (by omega) (by omega) h5
  rw [show ((ds.length : Int) + 1).toNat = ds.length + 1 by omega] at hsl2
  have hql : ((s.take n.toNat).drop (ds.length + 1)).length ≤ s.length := by rw [List.length_drop, List.length_take]; omega
  obtain ⟨q, hq⟩ : ∃ q, (s.take n.toNat).drop (ds.length + 1) = q := ⟨_, rfl⟩
  rw [hq] at h6 hsl2 hql
  have hlk := cutAt_len 61 q
  rw [h6] at hlk
  simp only at hlk
  have H6 := Aside0.mk h6
  clear h6 hq
  have H2 := Aside0.mk h2
  clear h2
  have H3 := Aside0.mk h3
  clear h3
  have HBW := Aside0.mk (below_alloc (Below.refl w.heap.size w) (.cells #[.string ⟨#[]⟩, .string ⟨#[]⟩] 25))
  have HG := Aside0.mk (hG.below HBW.out)
  clear hG
  have HB0 := Aside0.mk (Below.refl (w.alloc (.cells #[.string ⟨#[]⟩, .string ⟨#[]⟩] 25)).heap.size (w.alloc (.cells #[.string ⟨#[]⟩, .string ⟨#[]⟩] 25)))
  go_enter Tryd.func24, Tryd.ntmps24
  go_wp2_with (first
    | ((with_reducible refine (cut_any (s.take 8) 32 ds rs true H1.out _ (HG.out.below HB0.out) (by rw [List.length_take]; omega)).mono ?_); rintro e w1 ⟨rfl, hb1⟩; have HB1 := Aside0.mk (below_next HB0.out hb1))
    | ((with_reducible refine (cut_any q 61 k v false H6.out _ (HG.out.below HB3.out) (by omega)).mono ?_); rintro e w4 ⟨rfl, hb4⟩; have HB4 := Aside0.mk (below_next HB3.out hb4))
    | (go_at_call 33; refine (trim_any ds [] H2.out _ (by omega)).mono ?_; rintro e w2 ⟨rfl, hb2⟩; have HB2 := Aside0.mk (below_next HB1.out hb2))
    | (go_at_call 34; refine (atoi_ok (mkS ds) n _ (by rw [size_mkS]; omega) (by rw [data_mkS]; exact H3.out)).mono ?_; rintro e w3 ⟨rfl, hb3⟩; have HB3 := Aside0.mk (below_next HB2.out hb3))
    | ((with_reducible refine (must_bad _ _).mono ?_); rintro e wm ⟨rfl, rfl⟩)
    | ((with_reducible refine (must_ok _ _).mono ?_); rintro e wm ⟨rfl, rfl⟩))
  exact ⟨rfl, rfl, below_next HBW.out HB4.out⟩
set_option maxHeartbeats 1000000 in
set_option maxRecDepth 100000 in
theorem read_h (s ds rs k v : List UInt8) (at_ n : Int) (w : World) (hG : Good w) (hs : s.length ≤ 1000000) (h1 : cutAt 32 (s.take 8) = (ds, rs, true)) (hd : ¬ ds = []) (h2 : Lib.trimS ds digL = []) (h3 : Lib.atoiAll ds = .ok n) (h4 : (ds.length : Int) < n) (h5 : n ≤ (s.length : Int)) (h6 : cutAt 61 ((s.take n.toNat).drop (ds.length + 1)) = (k, v, true)) (h7 : Lib.hasSuffix v [10] = false) :
    Calls Tryd.prog 24 #[.string (mkS s), .int .i64 at_] w fun e w' => e = .panicked (Chain 53 (.agg #[.int .i64 at_])) ∧ Below w.heap.size w w' := by
  have hsl := slice_to s (min (s.length : Int) 8) (by omega) (by omega)
  rw [show (min (s.length : Int) 8).toNat = min s.length 8 by omega, show s.take (min s.length 8) = s.take 8 by rw [List.take_eq_take_iff]; omega] at hsl
  have hde : ds.isEmpty = false := by cases ds <;> simp_all
  have hl8 : ds.length ≤ 8 := by have := (cutAt_len 32 (s.take 8)).1; rw [h1, List.length_take] at this; simp only at this; omega
  have H1 := Aside0.mk h1
  clear h1
  have hsl2 := slice_mid s ((ds.length : Int) + 1) n (by omega) (by omega) h5
  rw [show ((ds.length : Int) + 1).toNat = ds.length + 1 by omega] at hsl2
  have hql : ((s.take n.toNat).drop (ds.length + 1)).length ≤ s.length := by rw [List.length_drop, List.length_take]; omega
  obtain ⟨q, hq⟩ : ∃ q, (s.take n.toNat).drop (ds.length + 1) = q := ⟨_, rfl⟩
  rw [hq] at h6 hsl2 hql
  have hlk := cutAt_len 61 q
  rw [h6] at hlk
  simp only at hlk
  have H6 := Aside0.mk h6
  clear h6 hq
  have H2 := Aside0.mk h2
  clear h2
  have H3 := Aside0.mk h3
  clear h3
  have H7 := Aside0.mk h7
  clear h7
  have HBW := Aside0.mk (below_alloc (Below.refl w.heap.size w) (.cells #[.string ⟨#[]⟩, .string ⟨#[]⟩] 25))
  have HG := Aside0.mk (hG.below HBW.out)
  clear hG
  have HB0 := Aside0.mk (Below.refl (w.alloc (.cells #[.string ⟨#[]⟩, .string ⟨#[]⟩] 25)).heap.size (w.alloc (.cells #[.string ⟨#[]⟩, .string ⟨#[]⟩] 25)))
  go_enter Tryd.func24, Tryd.ntmps24
  go_wp2_with (first
    | ((with_reducible refine (cut_any (s.take 8) 32 ds rs true H1.out _ (HG.out.below HB0.out) (by rw [List.length_take]; omega)).mono ?_); rintro e w1 ⟨rfl, hb1⟩; have HB1 := Aside0.mk (below_next HB0.out hb1))
    | ((with_reducible refine (cut_any q 61 k v true H6.out _ (HG.out.below HB3.out) (by omega)).mono ?_); rintro e w4 ⟨rfl, hb4⟩; have HB4 := Aside0.mk (below_next HB3.out hb4))
    | (go_at_call 35; refine (suffix_any v [10] false H7.out _ (by omega)).mono ?_; rintro e w5 ⟨rfl, rfl⟩)
    | (go_at_call 33; refine (trim_any ds [] H2.out _ (by omega)).mono ?_; rintro e w2 ⟨rfl, hb2⟩; have HB2 := Aside0.mk (below_next HB1.out hb2))
    | (go_at_call 34; refine (atoi_ok (mkS ds) n _ (by rw [size_mkS]; omega) (by rw [data_mkS]; exact H3.out)).mono ?_; rintro e w3 ⟨rfl, hb3⟩; have HB3 := Aside0.mk (below_next HB2.out hb3))
    | ((with_reducible refine (must_bad _ _).mono ?_); rintro e wm ⟨rfl, rfl⟩)
    | ((with_reducible refine (must_ok _ _).mono ?_); rintro e wm ⟨rfl, rfl⟩))
  exact ⟨rfl, rfl, below_next HBW.out HB4.out⟩
set_option maxHeartbeats 1000000 in
set_option maxRecDepth 100000 in
theorem read_j (s ds rs k u : List UInt8) (at_ n : Int) (w : World) (hG : Good w) (hs : s.length ≤ 1000000) (h1 : cutAt 32 (s.take 8) = (ds, rs, true)) (hd : ¬ ds = []) (h2 : Lib.trimS ds digL = []) (h3 : Lib.atoiAll ds = .ok n) (h4 : (ds.length : Int) < n) (h5 : n ≤ (s.length : Int)) (h6 : cutAt 61 ((s.take n.toNat).drop (ds.length + 1)) = (k, u ++ [10], true)) (h8 : putR k u = s.take n.toNat) :
    Calls Tryd.prog 24 #[.string (mkS s), .int .i64 at_] w fun e w' => e = .returned (.tuple #[.agg #[.string (mkS k), .string (mkS u)], .int .i64 n]) ∧ Below w.heap.size w w' := by
  have hsl := slice_to s (min (s.length : Int) 8) (by omega) (by omega)
  rw [show (min (s.length : Int) 8).toNat = min s.length 8 by omega, show s.take (min s.length 8) = s.take 8 by rw [List.take_eq_take_iff]; omega] at hsl
  have hde : ds.isEmpty = false := by cases ds <;> simp_all
  have hl8 : ds.length ≤ 8 := by have := (cutAt_len 32 (s.take 8)).1; rw [h1, List.length_take] at this; simp only at this; omega
  have H1 := Aside0.mk h1
  clear h1
  have hsl2 := slice_mid s ((ds.length : Int) + 1) n (by omega) (by omega) h5
  rw [show ((ds.length : Int) + 1).toNat = ds.length + 1 by omega] at hsl2
  have hql : ((s.take n.toNat).drop (ds.length + 1)).length ≤ s.length := by rw [List.length_drop, List.length_take]; omega
  obtain ⟨q, hq⟩ : ∃ q, (s.take n.toNat).drop (ds.length + 1) = q := ⟨_, rfl⟩
  rw [hq] at h6 hsl2 hql
  have hlk := cutAt_len 61 q
  rw [h6] at hlk
  simp only at hlk
  have H6 := Aside0.mk h6
  clear h6 hq
  have H2 := Aside0.mk h2
  clear h2
  have H3 := Aside0.mk h3
  clear h3
  have hku : k.length + u.length ≤ 1000000 := by
    have hc := cutAt_spec 61 q
    rw [H6.out] at hc
    simp only at hc
    rcases hc with ⟨_, hc, _⟩ | ⟨hc, _⟩
    · have := congrArg List.length hc
      simp at this
      omega
    · cases hc
  have hul : (u ++ [10]).length = u.length + 1 := by simp
  rw [hul] at hlk
  obtain ⟨v, hv⟩ : ∃ v, u ++ [10] = v := ⟨_, rfl⟩
  have hvl : v.length = u.length + 1 := by rw [← hv]; simp
  have hsl3 := slice_to v (u.length : Int) (by omega) (by omega)
  rw [Int.toNat_natCast, show v.take u.length = u by rw [← hv]; simp] at hsl3
  have hvm : IntKind.i64.wrap ((v.length : Int) - 1) = (u.length : Int) := by rw [IntWalk.i64_in _ (by omega)]; omega
  have hvm2 : (v.length : Int) - 1 = (u.length : Int) := by omega
  have H7 := Aside0.mk (show Lib.hasSuffix v [10] = true by rw [← hv]; unfold Lib.hasSuffix; rw [List.isSuffixOf_iff_suffix]; exact ⟨u, rfl⟩)
  have H6 := Aside0.mk (show cutAt 61 q = (k, v, true) by rw [H6.out, hv])
  have hsl4 := slice_to s n (by omega) h5
  clear hv hul
  have H8 := Aside0.mk h8
  clear h8
  have HBW := Aside0.mk (below_alloc (Below.refl w.heap.size w) (.cells #[.string ⟨#[]⟩, .string ⟨#[]⟩] 25))
  have HG := Aside0.mk (hG.below HBW.out)
  clear hG
  have HB0 := Aside0.mk (Below.refl (w.alloc (.cells #[.string ⟨#[]⟩, .string ⟨#[]⟩] 25)).heap.size (w.alloc (.cells #[.string ⟨#[]⟩, .string ⟨#[]⟩] 25)))
  go_enter Tryd.func24, Tryd.ntmps24
  go_wp2_with (first
    | ((with_reducible refine (cut_any (s.take 8) 32 ds rs true H1.out _ (HG.out.below HB0.out) (by rw [List.length_take]; omega)).mono ?_); rintro e w1 ⟨rfl, hb1⟩; have HB1 := Aside0.mk (below_next HB0.out hb1))
    | ((with_reducible refine (cut_any q 61 k v true H6.out _ (HG.out.below HB3.out) (by omega)).mono ?_); rintro e w4 ⟨rfl, hb4⟩; have HB4 := Aside0.mk (below_next HB3.out hb4))
    | (go_at_call 35; refine (suffix_any v [10] true H7.out _ (by omega)).mono ?_; rintro e w5 ⟨rfl, rfl⟩)
    | (go_at_call 33; refine (trim_any ds [] H2.out _ (by omega)).mono ?_; rintro e w2 ⟨rfl, hb2⟩; have HB2 := Aside0.mk (below_next HB1.out hb2))
    | (go_at_call 34; refine (atoi_ok (mkS ds) n _ (by rw [size_mkS]; omega) (by rw [data_mkS]; exact H3.out)).mono ?_; rintro e w3 ⟨rfl, hb3⟩; have HB3 := Aside0.mk (below_next HB2.out hb3))
    | ((with_reducible refine (must_bad _ _).mono ?_); rintro e wm ⟨rfl, rfl⟩)
    | ((with_reducible refine (must_ok _ _).mono ?_); rintro e wm ⟨rfl, rfl⟩))
  have HBn := Aside0.mk (below_alloc HB4.out (.cells #[.string (mkS k), .string (mkS u)] 25))
  have k13 : (wm.alloc (.cells #[.string (mkS k), .string (mkS u)] 25)).heap[wm.heap.size]? = some (.cells #[.string (mkS k), .string (mkS u)] 25 (0, 0)) := heap_alloc_new wm _
  obtain ⟨g, hg⟩ : ∃ g, wm.heap.size = g := ⟨_, rfl⟩
  rw [hg] at k13 ⊢
  generalize wm.alloc (.cells #[.string (mkS k), .string (mkS u)] 25) = W5 at HBn k13 ⊢
  clear hg
  have c0 : W5.cell? ⟨g, 0, none⟩ = some (.string (mkS k)) := blk_cell k13 0
  have c1 : W5.cell? ⟨g, 1, none⟩ = some (.string (mkS u)) := blk_cell k13 1
  have hz := blk_lt k13
  have HR0 := Aside0.mk (Below.refl W5.heap.size W5)
  have HG5 := Aside0.mk (HG.out.below HBn.out)
  go_region_held3 (fun w' => w'.cell? ⟨g, 0, none⟩ = some (.string (mkS k)) ∧ w'.cell? ⟨g, 1, none⟩ = some (.string (mkS u)) ∧ Aside0 (Below W5.heap.size W5 w'))
    (first
      | exact ⟨c0, c1, ⟨below_drew HR0.out⟩⟩
      | exact ⟨c0, c1, HR0⟩
      | (exact ⟨(hbq.cell (p := ⟨g, 0, none⟩) hz).trans c0, (hbq.cell (p := ⟨g, 1, none⟩) hz).trans c1, ⟨hbq⟩⟩)
      | assumption)
    ((go_split_ands
      have hbw := Aside0.out (by assumption : Aside0 (Below W5.heap.size W5 _))
      first
      | (go_at_call 8; refine (putR_is k u (s.take n.toNat) H8.out _ (HG5.out.below hbw) (by omega)).mono ?_; rintro e wp ⟨rfl, hbp⟩; have hbq := below_next hbw hbp)
      | (go_at_call 32; refine (must_ok _ _).mono ?_; rintro e wp ⟨rfl, rfl⟩; have hbq := hbw)))
  all_goals
    have HBF := Aside0.mk (below_next HBn.out hbq)
    have r0 := (HBF.out.block w.heap.size (by simp)).trans (heap_alloc_new w (.cells #[.string ⟨#[]⟩, .string ⟨#[]⟩] 25))
    have r13 := (hbq.block _ hz).trans k13
    have e0 := blk_cell r13 0
    have e1 := blk_cell r13 1
    have d0 := blk_cell r0 0
    have d1 := blk_cell r0 1
    have f0 := blk_frozen r0 0
    have f1 := blk_frozen r0 1
    have l0 := blk_lt r0
    simp only [List.getElem?_toArray, List.getElem?_cons_zero, List.getElem?_cons_succ] at e0 e1 d0 d1
    clear r0 r13
    go_wp2_with fail
    refine bodyPost_ret (v := .tuple #[.agg #[.string (mkS k), .string (mkS u)], .int .i64 n]) (by simp [results, Tryd.results24, go_sem, d0, d1, l0]) rfl ⟨rfl, below_set (below_set (below_next HBW.out HBF.out) (Nat.le_refl _)) (Nat.le_refl _)⟩
set_option maxHeartbeats 1000000 in
set_option maxRecDepth 100000 in
theorem read_i (s ds rs k u : List UInt8) (at_ n : Int) (w : World) (hG : Good w) (hs : s.length ≤ 1000000) (h1 : cutAt 32 (s.take 8) = (ds, rs, true)) (hd : ¬ ds = []) (h2 : Lib.trimS ds digL = []) (h3 : Lib.atoiAll ds = .ok n) (h4 : (ds.length : Int) < n) (h5 : n ≤ (s.length : Int)) (h6 : cutAt 61 ((s.take n.toNat).drop (ds.length + 1)) = (k, u ++ [10], true)) (h8 : ¬ putR k u = s.take n.toNat) :
    Calls Tryd.prog 24 #[.string (mkS s), .int .i64 at_] w fun e w' => e = .panicked (Chain 53 (.agg #[.int .i64 at_])) ∧ Below w.heap.size w w' := by
  have hsl := slice_to s (min (s.length : Int) 8) (by omega) (by omega)
  rw [show (min (s.length : Int) 8).toNat = min s.length 8 by omega, show s.take (min s.length 8) = s.take 8 by rw [List.take_eq_take_iff]; omega] at hsl
  have hde : ds.isEmpty = false := by cases ds <;> simp_all
  have hl8 : ds.length ≤ 8 := by have := (cutAt_len 32 (s.take 8)).1; rw [h1, List.length_take] at this; simp only at this; omega
  have H1 := Aside0.mk h1
  clear h1
  have hsl2 := slice_mid s ((ds.length : Int) + 1) n (by omega) (by omega) h5
  rw [show ((ds.length : Int) + 1).toNat = ds.length + 1 by omega] at hsl2
  have hql : ((s.take n.toNat).drop (ds.length + 1)).length ≤ s.length := by rw [List.length_drop, List.length_take]; omega
  obtain ⟨q, hq⟩ : ∃ q, (s.take n.toNat).drop (ds.length + 1) = q := ⟨_, rfl⟩
  rw [hq] at h6 hsl2 hql
  have hlk := cutAt_len 61 q
  rw [h6] at hlk
  simp only at hlk
  have H6 := Aside0.mk h6
  clear h6 hq
  have H2 := Aside0.mk h2
  clear h2
  have H3 := Aside0.mk h3
  clear h3
  have hku : k.length + u.length ≤ 1000000 := by
    have hc := cutAt_spec 61 q
    rw [H6.out] at hc
    simp only at hc
    rcases hc with ⟨_, hc, _⟩ | ⟨hc, _⟩
    · have := congrArg List.length hc
      simp at this
      omega
    · cases hc
  have hul : (u ++ [10]).length = u.length + 1 := by simp
  rw [hul] at hlk
  obtain ⟨v, hv⟩ : ∃ v, u ++ [10] = v := ⟨_, rfl⟩
  have hvl : v.length = u.length + 1 := by rw [← hv]; simp
  have hsl3 := slice_to v (u.length : Int) (by omega) (by omega)
  rw [Int.toNat_natCast, show v.take u.length = u by rw [← hv]; simp] at hsl3
  have hvm : IntKind.i64.wrap ((v.length : Int) - 1) = (u.length : Int) := by rw [IntWalk.i64_in _ (by omega)]; omega
  have hvm2 : (v.length : Int) - 1 = (u.length : Int) := by omega
  have H7 := Aside0.mk (show Lib.hasSuffix v [10] = true by rw [← hv]; unfold Lib.hasSuffix; rw [List.isSuffixOf_iff_suffix]; exact ⟨u, rfl⟩)
  have H6 := Aside0.mk (show cutAt 61 q = (k, v, true) by rw [H6.out, hv])
  have hsl4 := slice_to s n (by omega) h5
  clear hv hul
  obtain ⟨PP, hPP⟩ : ∃ PP, putR k u = PP := ⟨_, rfl⟩
  obtain ⟨TT, hTT⟩ : ∃ TT, s.take n.toNat = TT := ⟨_, rfl⟩
  rw [hPP, hTT] at h8
  rw [hTT] at hsl4
  have h8b : ((mkS PP).toList == (mkS TT).toList) = false := by rw [toList_mkS, toList_mkS]; simpa using h8
  have h8c : (PP == TT) = false := by simpa using h8
  have H8 := Aside0.mk hPP
  clear hPP hTT
  have HBW := Aside0.mk (below_alloc (Below.refl w.heap.size w) (.cells #[.string ⟨#[]⟩, .string ⟨#[]⟩] 25))
  have HG := Aside0.mk (hG.below HBW.out)
  clear hG
  have HB0 := Aside0.mk (Below.refl (w.alloc (.cells #[.string ⟨#[]⟩, .string ⟨#[]⟩] 25)).heap.size (w.alloc (.cells #[.string ⟨#[]⟩, .string ⟨#[]⟩] 25)))
  go_enter Tryd.func24, Tryd.ntmps24
  go_wp2_with (first
    | ((with_reducible refine (cut_any (s.take 8) 32 ds rs true H1.out _ (HG.out.below HB0.out) (by rw [List.length_take]; omega)).mono ?_); rintro e w1 ⟨rfl, hb1⟩; have HB1 := Aside0.mk (below_next HB0.out hb1))
    | ((with_reducible refine (cut_any q 61 k v true H6.out _ (HG.out.below HB3.out) (by omega)).mono ?_); rintro e w4 ⟨rfl, hb4⟩; have HB4 := Aside0.mk (below_next HB3.out hb4))
    | (go_at_call 35; refine (suffix_any v [10] true H7.out _ (by omega)).mono ?_; rintro e w5 ⟨rfl, rfl⟩)
    | (go_at_call 33; refine (trim_any ds [] H2.out _ (by omega)).mono ?_; rintro e w2 ⟨rfl, hb2⟩; have HB2 := Aside0.mk (below_next HB1.out hb2))
    | (go_at_call 34; refine (atoi_ok (mkS ds) n _ (by rw [size_mkS]; omega) (by rw [data_mkS]; exact H3.out)).mono ?_; rintro e w3 ⟨rfl, hb3⟩; have HB3 := Aside0.mk (below_next HB2.out hb3))
    | ((with_reducible refine (must_bad _ _).mono ?_); rintro e wm ⟨rfl, rfl⟩)
    | ((with_reducible refine (must_ok _ _).mono ?_); rintro e wm ⟨rfl, rfl⟩))
  have HBn := Aside0.mk (below_alloc HB4.out (.cells #[.string (mkS k), .string (mkS u)] 25))
  have k13 : (wm.alloc (.cells #[.string (mkS k), .string (mkS u)] 25)).heap[wm.heap.size]? = some (.cells #[.string (mkS k), .string (mkS u)] 25 (0, 0)) := heap_alloc_new wm _
  obtain ⟨g, hg⟩ : ∃ g, wm.heap.size = g := ⟨_, rfl⟩
  rw [hg] at k13 ⊢
  generalize wm.alloc (.cells #[.string (mkS k), .string (mkS u)] 25) = W5 at HBn k13 ⊢
  clear hg
  have c0 : W5.cell? ⟨g, 0, none⟩ = some (.string (mkS k)) := blk_cell k13 0
  have c1 : W5.cell? ⟨g, 1, none⟩ = some (.string (mkS u)) := blk_cell k13 1
  have hz := blk_lt k13
  have HR0 := Aside0.mk (Below.refl W5.heap.size W5)
  have HG5 := Aside0.mk (HG.out.below HBn.out)
  go_region_held (fun w' => w'.cell? ⟨g, 0, none⟩ = some (.string (mkS k)) ∧ w'.cell? ⟨g, 1, none⟩ = some (.string (mkS u)) ∧ Aside0 (Below W5.heap.size W5 w'))
    (first
      | exact ⟨c0, c1, ⟨below_drew HR0.out⟩⟩
      | exact ⟨c0, c1, HR0⟩
      | (exact ⟨(hbq.cell (p := ⟨g, 0, none⟩) hz).trans c0, (hbq.cell (p := ⟨g, 1, none⟩) hz).trans c1, ⟨hbq⟩⟩)
      | assumption)
    ((go_split_ands
      have hbw := Aside0.out (by assumption : Aside0 (Below W5.heap.size W5 _))
      first
      | (go_at_call 8; refine (putR_is k u PP H8.out _ (HG5.out.below hbw) (by omega)).mono ?_; rintro e wp ⟨rfl, hbp⟩; have hbq := below_next hbw hbp)
      | (go_at_call 32; refine calls_panic_stop (v := .tuple #[]) (wd := wp) (must_bad _ _) ?_ (fun hF => ?_)
         · exact ⟨rfl, rfl, below_next HBW.out (below_next HBn.out hbw)⟩)))
  all_goals exact hF.out.elim
end Go.Proofs.YtldimdlobgnnpaaDoor
