/- RecAll: the walk. -/
import Derived.Test.YtldimdlobgnnpaaDoorRecRefLaw
import Derived.Test.YtldimdlobgnnpaaDoorRecLaw
set_option linter.unusedVariables false
set_option linter.unusedSimpArgs false
namespace Go.Proofs.YtldimdlobgnnpaaDoor
open Go.RowKit Go.Proofs.YtldimdlobgnnpaaDoorW.PrintWords Go.Proofs.YtldimdlobgnnpaaDoor.PRecN Go.Proofs.YtldimdlobgnnpaaDoor.PRecR
attribute [local go_sem high] PRecN.eqA25

theorem recAll_guard (k v s : List UInt8) (a : Int) (w : World) (hG : Good w) (h : 400 < k.length ∨ 2000 < v.length ∨ 2000 < s.length) (hk : k.length ≤ 9223372036854775807) (hv : v.length ≤ 9223372036854775807) (hs : s.length ≤ 9223372036854775807) :
    Calls Tryd.prog 5 #[.agg #[.string (mkS k), .string (mkS v)], .string (mkS s), .int .i64 a] w fun e w' => e = .returned (.bool true) ∧ Below w.heap.size w w' := by
  have HG := Aside0.mk hG
  clear hG
  have hg : (400 : Int) < (k.length : Int) ∨ ((k.length : Int) ≤ 400 ∧ (2000 : Int) < (v.length : Int)) ∨ ((k.length : Int) ≤ 400 ∧ (v.length : Int) ≤ 2000 ∧ (2000 : Int) < (s.length : Int)) := by omega
  clear h
  have HB0 := Aside0.mk (below_alloc (Below.refl w.heap.size w) (.cells #[.string (mkS k), .string (mkS v)] 25))
  rcases hg with h1 | ⟨h1, h2⟩ | ⟨h1, h2, h3⟩
  all_goals
    go_enter Tryd.func5, Tryd.ntmps5
    go_wp2_with (go_at_call 13; refine (awake_any _ (HG.out.below HB0.out)).mono ?_; rintro e w4 ⟨rfl, hb4⟩)
    go_ret
    exact ⟨rfl, below_next HB0.out hb4⟩
/-- Get and the reference's GetRec answer alike. -/
theorem get_both (s : List UInt8) (a : Int) (K : Nat) (hs : s.length ≤ 2000) (hK : 20000 ≤ K) : ∃ r0 r1 n c, (∀ w, Good w → Calls Tryd.prog 10 #[.string (mkS s), .int .i64 a] w fun e w' => e = .returned (.tuple #[.agg #[.string r0, .string r1], .int .i64 n, .int .i64 c]) ∧ Below w.heap.size w w') ∧
    gripsackref1_GetRec.f K (mkS s) a = some (r0, r1, n, c) := by
  by_cases h : a < 0 ∨ (0 ≤ a ∧ (s.length : Int) < a)
  · exact ⟨_, _, _, _, fun w _ => get_arg s a w h, getRec_arg s a K h (by omega)⟩
  · obtain ⟨j, rfl⟩ := Int.eq_ofNat_of_zero_le (show 0 ≤ a by omega)
    by_cases h2 : j = s.length
    · subst h2
      exact ⟨_, _, _, _, fun w _ => get_end s w (by omega), getRec_end s K (by omega)⟩
    · have hf := getRec_f s j K hs (by omega) (by omega)
      unfold gotR at hf
      cases hr : readL (s.drop j) with
      | none =>
        rw [hr] at hf
        exact ⟨_, _, _, _, fun w hG => get_bad s j w hG (by omega) (by omega) hr, hf⟩
      | some x =>
        obtain ⟨k, v, n⟩ := x
        rw [hr] at hf
        exact ⟨_, _, _, _, fun w hG => get_ok s k v j n w hG (by omega) (by omega) hr, hf⟩
theorem joinL_len : ∀ l : List (List UInt8 × List UInt8), (∀ x ∈ l, mayR x.1 x.2 = true) → l.length ≤ (joinL l).length
  | [], _ => Nat.zero_le _
  | (k, v) :: l, h => by
    have hm : mayR k v = true := h (k, v) (by simp)
    have ih := joinL_len l (fun x hx => h x (by simp [hx]))
    have g := may_num hm
    have hj : joinL ((k, v) :: l) = putL k v ++ joinL l := by
      simp only [joinL, List.map_cons, List.flatten_cons]
      unfold putR
      rw [if_pos hm]
    have := (recNum_spec (restL k v).length (by omega)).2.1
    rw [hj, List.length_append, List.length_cons]
    omega
theorem below_drawn {w w' : World} (h : Drawn0 w w') : Below w.heap.size w w' := by
  obtain ⟨n, rfl⟩ := h.out
  exact below_drewN (Below.refl _ _) n
theorem allP_len (s : List UInt8) : (allP s).1.length ≤ s.length := by
  unfold allP
  cases h : allL s with
  | none => simp
  | some l =>
    obtain ⟨h1, h2⟩ := join_all _ s l h
    have := joinL_len l h2
    simp only
    rw [List.length_map]
    rw [h1] at this
    exact this
theorem allP_same (s : List UInt8) (K : Nat) (hs : s.length ≤ 65536) (hK : 70000 ≤ K) : gripsackref1_SameRecs.f K (allP s).1 (allP s).1 = some true := by
  have hl := allP_len s
  unfold allP at hl ⊢
  cases h : allL s with
  | none => simpa using same_f [] [] K (by simp) (by simp; omega)
  | some l =>
    rw [h] at hl
    simp only [List.length_map] at hl
    have := same_f l l K (by omega) (by omega)
    simp only
    rw [this]
    simp
set_option maxHeartbeats 4000000 in
set_option maxRecDepth 100000 in
theorem recAll_main (k v s : List UInt8) (a : Int) (w : World) (hG : Good w) (h1 : k.length ≤ 400) (h2 : v.length ≤ 2000) (h3 : s.length ≤ 2000) :
    Calls Tryd.prog 5 #[.agg #[.string (mkS k), .string (mkS v)], .string (mkS s), .int .i64 a] w fun e w' => e = .returned (.bool true) ∧ Below w.heap.size w w' := by
  obtain ⟨K, hK⟩ : ∃ K : Nat, 70000 ≤ K := ⟨70000, Nat.le_refl _⟩
  obtain ⟨r0, r1, n, c, hget, hgetR⟩ := get_both s a K h3 (by omega)
  have hall := fun w hG => all_is s w hG (by omega)
  have hallR := allRec_f s K h3 (by omega)
  have hsame := allP_same s K (by omega) hK
  have hlen := allP_len s
  obtain ⟨L, hL⟩ : ∃ L, (allP s).1 = L := ⟨_, rfl⟩
  obtain ⟨E, hE⟩ : ∃ E, (allP s).2 = E := ⟨_, rfl⟩
  rw [show allP s = (L, E) from Prod.ext hL hE] at hallR
  rw [hL] at hall hsame hlen
  rw [hE] at hall
  have h1' : (k.length : Int) ≤ 400 := by omega
  have h2' : (v.length : Int) ≤ 2000 := by omega
  have h3' : (s.length : Int) ≤ 2000 := by omega
  have HG := Aside0.mk hG
  have HGET := Aside0.mk hget
  have HGETR := Aside0.mk hgetR
  have HALL := Aside0.mk hall
  have HALLR := Aside0.mk hallR
  have HSAME := Aside0.mk hsame
  have HMAY := Aside0.mk (may_any k v)
  have HPUT := Aside0.mk (putR_any k v)
  have HMAYR := Aside0.mk (mayRec_f k v K (by omega) (by omega))
  have HPUTR := Aside0.mk (putRec_f k v K (by omega) (by omega))
  obtain ⟨mb, hmb⟩ : ∃ mb, mayR k v = mb := ⟨_, rfl⟩
  obtain ⟨pb, hpb⟩ : ∃ pb, putR k v = pb := ⟨_, rfl⟩
  rw [hmb] at HMAY HMAYR
  rw [hpb] at HPUT HPUTR
  have HB0 := Aside0.mk (below_alloc (Below.refl w.heap.size w) (.cells #[.string (mkS k), .string (mkS v)] 25))
  have g0 := heap_alloc_new w (.cells #[.string (mkS k), .string (mkS v)] 25)
  clear hG hget hgetR hall hallR hsame hmb hpb hL hE
  go_enter Tryd.func5, Tryd.ntmps5
  go_wp2_with fail
  generalize w.alloc (.cells #[.string (mkS k), .string (mkS v)] 25) = w0 at HB0 g0 ⊢
  refine (HGET.out w0 (HG.out.below HB0.out)).mono ?_
  rintro e w1 ⟨rfl, hb1⟩
  have HB1 := Aside0.mk (below_alloc (below_next HB0.out hb1) (.cells #[.string r0, .string r1] 25))
  have g1 := heap_alloc_new w1 (.cells #[.string r0, .string r1] 25)
  have g01 := blk_alloc ((hb1.block _ (blk_lt g0)).trans g0) (.cells #[.string r0, .string r1] 25)
  clear hb1 g0
  go_wp2_with fail
  obtain ⟨n1, hn1⟩ : ∃ n1, w1.heap.size = n1 := ⟨_, rfl⟩
  rw [hn1] at g1 ⊢
  generalize w1.alloc (.cells #[.string r0, .string r1] 25) = w2 at HB1 g1 g01 ⊢
  refine (gripsackref1_GetRec.calls K (mkS s) a r0 r1 n c w2 HGETR.out).mono ?_
  rintro e w3 ⟨rfl, hb3⟩
  have HB3 := Aside0.mk (below_alloc (below_next HB1.out hb3) (.cells #[.string r0, .string r1, .int .i64 n, .int .i64 c] 37))
  have g2 := heap_alloc_new w3 (.cells #[.string r0, .string r1, .int .i64 n, .int .i64 c] 37)
  have g12 := blk_alloc ((hb3.block _ (blk_lt g1)).trans g1) (.cells #[.string r0, .string r1, .int .i64 n, .int .i64 c] 37)
  have g02 := blk_alloc ((hb3.block _ (blk_lt g01)).trans g01) (.cells #[.string r0, .string r1, .int .i64 n, .int .i64 c] 37)
  clear hb3 g1 g01
  go_wp2_with fail
  obtain ⟨n2, hn2⟩ : ∃ n2, w3.heap.size = n2 := ⟨_, rfl⟩
  rw [hn2] at g2 ⊢
  generalize w3.alloc (.cells #[.string r0, .string r1, .int .i64 n, .int .i64 c] 37) = w4 at HB3 g2 g12 g02 ⊢
  refine (HALL.out w4 (HG.out.below HB3.out)).mono ?_
  rintro e w5 ⟨Ax, cx, rfl, hcx, hCx, hb5⟩
  have HB5 := Aside0.mk (below_next HB3.out hb5)
  have g25 := (hb5.block _ (blk_lt g2)).trans g2
  have g15 := (hb5.block _ (blk_lt g12)).trans g12
  have g05 := (hb5.block _ (blk_lt g02)).trans g02
  have HX5 := Aside0.mk hCx
  clear hb5 g2 g12 g02 hCx
  go_wp2_with fail
  refine (gripsackref1_AllRecs.calls K (mkS s) L E w5 HALLR.out).mono ?_
  rintro e w6 ⟨vy, rfl, hRy, hb6⟩
  obtain ⟨Ay, cy, rfl, hcy, hCy⟩ := Kd.R_reads hRy
  have HB6 := Aside0.mk (below_alloc (below_next HB5.out hb6) (.cells #[.slice Ay L.length cy, .int .i64 E] 43))
  have g3 := heap_alloc_new w6 (.cells #[.slice Ay L.length cy, .int .i64 E] 43)
  have g26 := blk_alloc ((hb6.block _ (blk_lt g25)).trans g25) (.cells #[.slice Ay L.length cy, .int .i64 E] 43)
  have g16 := blk_alloc ((hb6.block _ (blk_lt g15)).trans g15) (.cells #[.slice Ay L.length cy, .int .i64 E] 43)
  have g06 := blk_alloc ((hb6.block _ (blk_lt g05)).trans g05) (.cells #[.slice Ay L.length cy, .int .i64 E] 43)
  have HX6 := Aside0.mk (Kd.C_below (Kd.C_below HX5.out hb6) (below_alloc (Below.refl _ _) (.cells #[.slice Ay L.length cy, .int .i64 E] 43)))
  have HY6 := Aside0.mk (Kd.C_below hCy (below_alloc (Below.refl _ _) (.cells #[.slice Ay L.length cy, .int .i64 E] 43)))
  clear hb6 g25 g15 g05 hRy hCy
  go_wp2_with fail
  obtain ⟨n3, hn3⟩ : ∃ n3, w6.heap.size = n3 := ⟨_, rfl⟩
  rw [hn3] at g3 ⊢
  generalize w6.alloc (.cells #[.slice Ay L.length cy, .int .i64 E] 43) = w7 at HB6 g3 g26 g16 g06 HX6 HY6 ⊢
  have z0 := blk_lt g06
  have z1 := blk_lt g16
  have z2 := blk_lt g26
  have z3 := blk_lt g3
  have c00 : w7.cell? ⟨w.heap.size, 0, none⟩ = some (.string (mkS k)) := blk_cell g06 0
  have c01 : w7.cell? ⟨w.heap.size, 1, none⟩ = some (.string (mkS v)) := blk_cell g06 1
  have c10 : w7.cell? ⟨n1, 0, none⟩ = some (.string r0) := blk_cell g16 0
  have c11 : w7.cell? ⟨n1, 1, none⟩ = some (.string r1) := blk_cell g16 1
  have c20 : w7.cell? ⟨n2, 0, none⟩ = some (.string r0) := blk_cell g26 0
  have c21 : w7.cell? ⟨n2, 1, none⟩ = some (.string r1) := blk_cell g26 1
  have c22 : w7.cell? ⟨n2, 2, none⟩ = some (.int .i64 n) := blk_cell g26 2
  have c23 : w7.cell? ⟨n2, 3, none⟩ = some (.int .i64 c) := blk_cell g26 3
  have c30 : w7.cell? ⟨n3, 0, none⟩ = some (.slice Ay L.length cy) := blk_cell g3 0
  have c31 : w7.cell? ⟨n3, 1, none⟩ = some (.int .i64 E) := blk_cell g3 1
  have HR0 := Aside0.mk (Below.refl w7.heap.size w7)
  clear g06 g16 g26 g3 hn1 hn2 hn3
  have kp : ∀ W, Below w7.heap.size w7 W → W.cell? ⟨w.heap.size, 0, none⟩ = some (.string (mkS k)) ∧ W.cell? ⟨w.heap.size, 1, none⟩ = some (.string (mkS v)) ∧ W.cell? ⟨n1, 0, none⟩ = some (.string r0) ∧ W.cell? ⟨n1, 1, none⟩ = some (.string r1) ∧ W.cell? ⟨n2, 0, none⟩ = some (.string r0) ∧ W.cell? ⟨n2, 1, none⟩ = some (.string r1) ∧ W.cell? ⟨n2, 2, none⟩ = some (.int .i64 n) ∧ W.cell? ⟨n2, 3, none⟩ = some (.int .i64 c) ∧ W.cell? ⟨n3, 0, none⟩ = some (.slice Ay L.length cy) ∧ W.cell? ⟨n3, 1, none⟩ = some (.int .i64 E) ∧ Aside0 (Below w7.heap.size w7 W) := fun W hb =>
    ⟨(hb.cell (p := ⟨_, 0, none⟩) z0).trans c00, (hb.cell (p := ⟨_, 1, none⟩) z0).trans c01, (hb.cell (p := ⟨_, 0, none⟩) z1).trans c10, (hb.cell (p := ⟨_, 1, none⟩) z1).trans c11, (hb.cell (p := ⟨_, 0, none⟩) z2).trans c20, (hb.cell (p := ⟨_, 1, none⟩) z2).trans c21, (hb.cell (p := ⟨_, 2, none⟩) z2).trans c22, (hb.cell (p := ⟨_, 3, none⟩) z2).trans c23, (hb.cell (p := ⟨_, 0, none⟩) z3).trans c30, (hb.cell (p := ⟨_, 1, none⟩) z3).trans c31, ⟨hb⟩⟩
  have KP := Aside0.mk kp
  clear kp c00 c01 c10 c11 c20 c21 c22 c23 c30 c31
  have HG7 := Aside0.mk (HG.out.below HB6.out)
  go_region_held3 (fun W => W.cell? ⟨w.heap.size, 0, none⟩ = some (.string (mkS k)) ∧ W.cell? ⟨w.heap.size, 1, none⟩ = some (.string (mkS v)) ∧ W.cell? ⟨n1, 0, none⟩ = some (.string r0) ∧ W.cell? ⟨n1, 1, none⟩ = some (.string r1) ∧ W.cell? ⟨n2, 0, none⟩ = some (.string r0) ∧ W.cell? ⟨n2, 1, none⟩ = some (.string r1) ∧ W.cell? ⟨n2, 2, none⟩ = some (.int .i64 n) ∧ W.cell? ⟨n2, 3, none⟩ = some (.int .i64 c) ∧ W.cell? ⟨n3, 0, none⟩ = some (.slice Ay L.length cy) ∧ W.cell? ⟨n3, 1, none⟩ = some (.int .i64 E) ∧ Aside0 (Below w7.heap.size w7 W))
    (first
      | exact KP.out _ (below_drew HR0.out)
      | exact KP.out _ hbq)
    ((go_split_ands
      have hbw := Aside0.out (by assumption : Aside0 (Below w7.heap.size w7 _))
      first
      | (go_at_call 12; refine (HMAY.out _ (HG7.out.below hbw) (by omega)).mono ?_; rintro e wp ⟨rfl, hbp⟩; have hbq := below_next hbw hbp)
      | (go_at_call 17; refine (gripsackref1_MayRec.calls K (mkS k) (mkS v) mb _ HMAYR.out).mono ?_; rintro e wp ⟨rfl, hbp⟩; have hbq := below_next hbw hbp)
      | (go_at_call 8; refine (HPUT.out _ (HG7.out.below hbw) (by omega)).mono ?_; rintro e wp ⟨rfl, hbp⟩; have hbq := below_next hbw hbp)
      | (go_at_call 18; refine (gripsackref1_PutRec.calls K (mkS k) (mkS v) (mkS pb) _ HPUTR.out).mono ?_; rintro e wp ⟨rfl, hbp⟩; have hbq := below_next hbw hbp)
      | (go_at_call 11; refine (err_any _ _).mono ?_; rintro e wp ⟨rfl, rfl⟩; have hbq := hbw)
      | (go_at_call 19; refine (gripsackref1_SameRecs.calls K Ax cx L Ay cy L true _ (Kd.C_below HX6.out hbw) hcx (Kd.C_below HY6.out hbw) hcy HSAME.out).mono ?_; rintro e wp ⟨rfl, hdp⟩; have hbq := below_next hbw (below_drawn hdp))
      | (go_at_call 13; refine (awake_any _ (HG7.out.below hbw)).mono ?_; rintro e wp ⟨rfl, hbp⟩; have hbq := below_next hbw hbp)))
  all_goals
    go_wp2_with fail
    go_ret
    exact ⟨rfl, below_next HB6.out hbq⟩
/-- As the row hands it over. -/
theorem recAll_row (k v s : ByteArray) (a : Int) (w : World) (hG : Good w) (hk : k.size ≤ 9223372036854775807) (hv : v.size ≤ 9223372036854775807) (hs : s.size ≤ 140737488351232) :
    Calls Tryd.prog 5 #[.agg #[.string k, .string v], .string s, .int .i64 a] w fun e w' => e = .returned (.bool true) ∧ Below w.heap.size w w' := by
  obtain ⟨k, rfl⟩ := exists_mkS k
  obtain ⟨v, rfl⟩ := exists_mkS v
  obtain ⟨s, rfl⟩ := exists_mkS s
  rw [size_mkS] at hk hv hs
  by_cases h : 400 < k.length ∨ 2000 < v.length ∨ 2000 < s.length
  · exact recAll_guard k v s a w hG h (by omega) (by omega) (by omega)
  · exact recAll_main k v s a w hG (by omega) (by omega) (by omega)
end Go.Proofs.YtldimdlobgnnpaaDoor
