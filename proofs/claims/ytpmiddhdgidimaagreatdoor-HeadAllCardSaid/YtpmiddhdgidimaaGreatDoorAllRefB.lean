/- The reference of a header: numbers are read from fields. Conditions: those of each theorem. -/
import Derived.Test.YtpmiddhdgidimaaGreatDoorAllRefA
set_option linter.unusedVariables false
set_option linter.unusedSimpArgs false
namespace Go.Proofs.YtpmiddhdgidimaaGreatDoor
open Go.RowKit Go.Proofs.YtpmiddhdgidimaaGreatDoorW.PrintWords

def readON (s : List UInt8) : Nat := foldO (s.take (s.length - 1))
theorem readON_ok {s : List UInt8} (hs : 0 < s.length) : octOk s.length (readON s : Int) = true := by
  rw [octOk_iff]
  have := foldO_lt (s.length - 1) (s.take (s.length - 1)) (by rw [List.length_take]; omega)
  unfold readON
  exact ⟨Int.natCast_nonneg _, by exact_mod_cast this⟩
theorem readO_eq {s : List UInt8} (hs : 0 < s.length) : readOctT s = if octL s.length (readON s) = s then some (readON s : Int) else none := by
  unfold readOctT
  by_cases hz : Lib.hasSuffix s [0] = true
  · have e : readOV s = readON s := by unfold readOV cutZero readON; rw [if_pos hz]
    rw [e]
    by_cases h : octL s.length (readON s) = s
    · rw [if_pos ⟨readON_ok hs, h⟩, if_pos h]
    · rw [if_neg (fun x => h x.2), if_neg h]
  · have hne : ∀ n, octL s.length n ≠ s := by
      intro n h
      apply hz
      rw [← h]
      unfold octL Lib.hasSuffix
      simp
    rw [if_neg (fun x => hne _ x.2), if_neg (hne _)]
/-- A number or none, as the reference says it. -/
def numR (o : Option Int) : Value := .agg #[.int .i64 (o.getD 0), .bool o.isSome]
theorem num_res (p : Nat) (x0 x1 : Value) (tmps : Array Value) (W : World) (t8 : tmps.getD 2 undef = .pointer (some ⟨p, 0, none⟩)) (H : W.heap[p]? = some (.cells #[x0, x1] 52)) :
    (results Tryz.f44 tmps).run Tryz.prog W = .ok (.agg #[x0, x1]) W := by
  have c0 : W.cell? ⟨p, 0, none⟩ = some x0 := blk_cell H 0
  have c1 : W.cell? ⟨p, 1, none⟩ = some x1 := blk_cell H 1
  clear H
  replace t8 : tmps[2]?.getD undef = .pointer (some ⟨p, 0, none⟩) := by simpa using t8
  simp only [results, Tryz.results44]
  simp [Sem.run_bind, Result.andThen, t8, go_sem, c0, c1]
theorem wraps_u8' (n : Int) (h₀ : 0 ≤ n) (h₁ : n < 2 ^ 8) : IntKind.u8.wrap n = n := by
  have e : IntKind.u8.wrap n = n % 256 := rfl
  rw [e]; omega
theorem and7b (q : Nat) (hq : q < 256) : Go.bits .and .u8 (q : Int) 7 = ((q % 8 : Nat) : Int) := by
  have h := bits_mask .u8 8 (by decide) wraps_u8' 3 (by decide) (q : Int) (by omega) (by omega)
  rw [show ((q % 8 : Nat) : Int) = (q : Int) % 8 by omega]
  exact h
set_option maxHeartbeats 4000000 in
set_option maxRecDepth 100000 in
theorem rReadOctal_any (s : List UInt8) (w : World) (hs : s.length = 8 ∨ s.length = 12) :
    Calls Tryz.prog 44 #[.string (mkS s)] w fun e w' => e = .returned (numR (readOctT s)) ∧ Below w.heap.size w w' := by
  have H := Aside0.mk (heap_alloc_new w (.cells #[.int .i64 0, .bool false] 52))
  have HB := Aside0.mk (below_alloc (Below.refl w.heap.size w) (.cells #[.int .i64 0, .bool false] 52))
  obtain ⟨r, hr⟩ : ∃ r, r = numR (readOctT s) := ⟨_, rfl⟩
  rw [← hr]
  rw [readO_eq (by omega)] at hr
  have HR := Aside0.mk hr
  have HOK := Aside0.mk (readON_ok (s := s) (by omega))
  have hlt := foldO_lt (s.length - 1) (s.take (s.length - 1)) (by rw [List.length_take]; omega)
  have h8 : 8 ^ (s.length - 1) ≤ 8589934592 := by rcases hs with e | e <;> rw [e] <;> decide
  have HN := Aside0.mk (show readON s < 8589934592 from Nat.lt_of_lt_of_le hlt h8)
  obtain ⟨L, hL⟩ : ∃ L, octL s.length (readON s) = L := ⟨_, rfl⟩
  rw [hL] at HR
  have hLl : L.length ≤ 12 := by rw [← hL, octL_length _ _ (by omega)]; omega
  have HO := Aside0.mk (fun W => show Calls Tryz.prog 34 #[.int .i64 (readON s : Int), .int .i64 (s.length : Int)] W fun e w' => e = .returned (.agg #[.string (mkS L), .bool true]) ∧ Below W.heap.size W w' from (by
    have h := rOctal_any (readON s) s.length W hs (by have := HN.out; omega) (by have := HN.out; omega)
    rw [HOK.out, if_pos rfl, Int.toNat_natCast, hL] at h
    exact h))
  clear hL HOK
  clear hr hlt h8
  have hl1 : s.length = 8 ∨ s.length ≠ 8 := by omega
  go_enter Tryz.func44, Tryz.ntmps44
  rcases hs with hs | hs
  all_goals
    rw [hs] at HO
    have hsz : (mkS s).size = s.length := size_mkS s
    go_wp2_with fail
    obtain ⟨W, hW⟩ : ∃ W, W = w.alloc (.cells #[.int .i64 0, .bool false] 52) := ⟨_, rfl⟩
    rw [← hW] at H HB ⊢
    clear hW
    go_loopw [3, 4] (fun nv iv wr => ∃ (k X : Nat), k + 1 ≤ s.length ∧ iv = .int .i64 k ∧ nv = .int .i64 (X : Int) ∧ Aside0 (X = foldO (s.take k)) ∧ wr = W) (fun _ iv _ => s.length - (intOf iv).toNat)
    case atStart => exact ⟨0, 0, by omega, rfl, rfl, ⟨rfl⟩, rfl⟩
    case round =>
      obtain ⟨k, X, hk, rfl, rfl, HX, rfl⟩ := hrel
      have hXb : X < 68719476736 := by
        have h1 := foldO_lt k (s.take k) (by rw [List.length_take]; omega)
        have h2 : 8 ^ k ≤ 8 ^ 12 := Nat.pow_le_pow_right (by decide) (by omega)
        have h3 : (8 : Nat) ^ 12 = 68719476736 := by decide
        rw [HX.out]; omega
      by_cases hlt : k + 1 < s.length
      · have hlt2 : k < s.length := by omega
        have hb0 := mkS_at hlt2
        have HF := Aside0.mk (show foldO (s.take (k + 1)) = X * 8 + ((s.getD k 0).toNat + 208) % 8 by
          rw [List.take_succ_eq_append_getElem hlt2, foldO_snoc, ← HX.out, List.getD_eq_getElem?_getD, List.getElem?_eq_getElem hlt2]
          rfl)
        generalize s.getD k 0 = b at *
        obtain ⟨q, hq⟩ : ∃ q : Nat, b.toNat = q := ⟨_, rfl⟩
        have hq2 : q < 256 := by rw [← hq]; exact UInt8.toNat_lt _
        rw [hq] at HF
        have hand := and7b q hq2
        rw [← hq] at hand
        obtain ⟨d, hd⟩ : ∃ d : Nat, b.toNat % 8 = d := ⟨_, rfl⟩
        rw [hd] at hand
        have HF2 := Aside0.mk (show foldO (s.take (k + 1)) = X * 8 + d by rw [HF.out]; omega)
        have hd8 : d < 8 := by omega
        clear HF hq2 hq hd
        go_wp2_with fail
        exact ⟨⟨k + 1, X * 8 + d, by omega, by go_num, rfl, ⟨HF2.out.symm⟩, trivial⟩, by simp [intOf]; omega⟩
      · obtain rfl : k = s.length - 1 := by omega
        have hv : readON s = X := HX.out.symm
        rw [hv] at HR HO
        have HO2 := Aside0.mk (HO.out wr)
        clear HO hv HX HN
        go_wp2_with fail
        refine HO2.out.mono ?_
        rintro e w2 ⟨rfl, hb2⟩
        have H2 := Aside0.mk ((hb2.block _ (blk_lt H.out)).trans H.out)
        have B2 := Aside0.mk (below_next HB.out hb2)
        clear hb2 HO2
        obtain ⟨nd, hnd⟩ : ∃ o : Option Int, o = (if L = s then some (X : Int) else none) := ⟨_, rfl⟩
        rw [← hnd] at HR
        have hw1 : IntKind.i64.wrap (X : Int) = X := by rw [IntKind.wrap_i64]; omega
        by_cases hls : L = s
        · subst hls
          rw [if_pos rfl] at hnd
          subst hnd
          go_wp2_with fail
          obtain ⟨W3, hW3⟩ : ∃ W, W = w2.alloc (.cells #[.string (mkS L), .bool true] 64) := ⟨_, rfl⟩
          rw [← hW3]
          have HX : W3.drew.heap[w2.heap.size]? = some (.cells #[.string (mkS L), .bool true] 64) := by rw [hW3]; exact heap_alloc_new _ _
          have HD : W3.drew.heap[w.heap.size]? = some (.cells #[.int .i64 0, .bool false] 52) := by rw [hW3]; exact blk_alloc H2.out _
          have BD : Aside0 (Below w.heap.size w W3.drew) := by rw [hW3]; exact ⟨below_drew (below_alloc B2.out _)⟩
          have x0 : W3.drew.cell? ⟨w2.heap.size, 0, none⟩ = some (.string (mkS L)) := blk_cell HX 0
          have x1 : W3.drew.cell? ⟨w2.heap.size, 1, none⟩ = some (.bool true) := blk_cell HX 1
          have d0 : W3.drew.cell? ⟨w.heap.size, 0, none⟩ = some (.int .i64 0) := blk_cell HD 0
          have d1 : W3.drew.cell? ⟨w.heap.size, 1, none⟩ = some (.bool false) := blk_cell HD 1
          have g0 := blk_frozen HD 0
          have g1 := blk_frozen HD 1
          have gh := blk_lt HD
          have y0 : W3.cell? ⟨w2.heap.size, 0, none⟩ = some (.string (mkS L)) := x0
          have y1 : W3.cell? ⟨w2.heap.size, 1, none⟩ = some (.bool true) := x1
          have e0 : W3.cell? ⟨w.heap.size, 0, none⟩ = some (.int .i64 0) := d0
          have e1 : W3.cell? ⟨w.heap.size, 1, none⟩ = some (.bool false) := d1
          have k0 : W3.frozen? ⟨w.heap.size, 0, none⟩ = false := g0
          have k1 : W3.frozen? ⟨w.heap.size, 1, none⟩ = false := g1
          have kh : w.heap.size < W3.heap.size := gh
          have HDA := Aside0.mk HD
          clear HD HX hW3
          have hlt2 : w.heap.size ≠ w2.heap.size := Nat.ne_of_lt (blk_lt H2.out)
          have KS := Aside0.mk (fun (u v : Value) => show (fun W : World => W.cell? ⟨w2.heap.size, 0, none⟩ = some (.string (mkS L)) ∧ W.cell? ⟨w2.heap.size, 1, none⟩ = some (.bool true)) ((W3.drew.setCell ⟨w.heap.size, 0, none⟩ u).setCell ⟨w.heap.size, 1, none⟩ v) from
            ⟨(World.cell?_setCell_far _ _ _ _ hlt2).trans ((World.cell?_setCell_far _ _ _ _ hlt2).trans x0), (World.cell?_setCell_far _ _ _ _ hlt2).trans ((World.cell?_setCell_far _ _ _ _ hlt2).trans x1)⟩)
          go_region_held3 (fun W : World => W.cell? ⟨w2.heap.size, 0, none⟩ = some (.string (mkS L)) ∧ W.cell? ⟨w2.heap.size, 1, none⟩ = some (.bool true))
            (first
              | with_reducible exact ⟨x0, x1⟩
              | exact KS.out _ _)
            ((go_at_call 61; refine (rTruth_any _ _).mono ?_; rintro e wp ⟨rfl, rfl⟩))
          all_goals
            go_wp2_with fail
            have a1 := blk_hit (i := 0) (v := .int .i64 (X : Int)) HDA.out
            have a2 := blk_hit (i := 1) (v := .bool true) a1
            simp only [List.setIfInBounds_toArray, List.set_cons_zero, List.set_cons_succ] at a2
            refine bodyPost_ret (num_res w.heap.size _ _ _ _ rfl a2) rfl ?_
            exact ⟨by rw [HR.out]; rfl, Below.setCell (Below.setCell BD.out (Nat.le_refl _) _) (Nat.le_refl _) _⟩
        · rw [if_neg hls] at hnd
          subst hnd
          have hq : (L == s) = false := by simpa using hls
          go_wp2_with fail
          obtain ⟨W3, hW3⟩ : ∃ W, W = w2.alloc (.cells #[.string (mkS L), .bool true] 64) := ⟨_, rfl⟩
          rw [← hW3]
          have HX : W3.drew.heap[w2.heap.size]? = some (.cells #[.string (mkS L), .bool true] 64) := by rw [hW3]; exact heap_alloc_new _ _
          have HD : W3.drew.heap[w.heap.size]? = some (.cells #[.int .i64 0, .bool false] 52) := by rw [hW3]; exact blk_alloc H2.out _
          have BD : Aside0 (Below w.heap.size w W3.drew) := by rw [hW3]; exact ⟨below_drew (below_alloc B2.out _)⟩
          have x0 : W3.drew.cell? ⟨w2.heap.size, 0, none⟩ = some (.string (mkS L)) := blk_cell HX 0
          have x1 : W3.drew.cell? ⟨w2.heap.size, 1, none⟩ = some (.bool true) := blk_cell HX 1
          have d0 : W3.drew.cell? ⟨w.heap.size, 0, none⟩ = some (.int .i64 0) := blk_cell HD 0
          have d1 : W3.drew.cell? ⟨w.heap.size, 1, none⟩ = some (.bool false) := blk_cell HD 1
          have g0 := blk_frozen HD 0
          have g1 := blk_frozen HD 1
          have gh := blk_lt HD
          have y0 : W3.cell? ⟨w2.heap.size, 0, none⟩ = some (.string (mkS L)) := x0
          have y1 : W3.cell? ⟨w2.heap.size, 1, none⟩ = some (.bool true) := x1
          have e0 : W3.cell? ⟨w.heap.size, 0, none⟩ = some (.int .i64 0) := d0
          have e1 : W3.cell? ⟨w.heap.size, 1, none⟩ = some (.bool false) := d1
          have k0 : W3.frozen? ⟨w.heap.size, 0, none⟩ = false := g0
          have k1 : W3.frozen? ⟨w.heap.size, 1, none⟩ = false := g1
          have kh : w.heap.size < W3.heap.size := gh
          have HDA := Aside0.mk HD
          clear HD HX hW3
          have hlt2 : w.heap.size ≠ w2.heap.size := Nat.ne_of_lt (blk_lt H2.out)
          have KS := Aside0.mk (fun (u v : Value) => show (fun W : World => W.cell? ⟨w2.heap.size, 0, none⟩ = some (.string (mkS L)) ∧ W.cell? ⟨w2.heap.size, 1, none⟩ = some (.bool true)) ((W3.drew.setCell ⟨w.heap.size, 0, none⟩ u).setCell ⟨w.heap.size, 1, none⟩ v) from
            ⟨(World.cell?_setCell_far _ _ _ _ hlt2).trans ((World.cell?_setCell_far _ _ _ _ hlt2).trans x0), (World.cell?_setCell_far _ _ _ _ hlt2).trans ((World.cell?_setCell_far _ _ _ _ hlt2).trans x1)⟩)
          go_region_held3 (fun W : World => W.cell? ⟨w2.heap.size, 0, none⟩ = some (.string (mkS L)) ∧ W.cell? ⟨w2.heap.size, 1, none⟩ = some (.bool true))
            (first
              | with_reducible exact ⟨x0, x1⟩
              | exact KS.out _ _)
            ((go_at_call 61; refine (rTruth_any _ _).mono ?_; rintro e wp ⟨rfl, rfl⟩))
          all_goals
            go_wp2_with fail
            have a1 := blk_hit (i := 0) (v := .int .i64 0) HDA.out
            have a2 := blk_hit (i := 1) (v := .bool false) a1
            simp only [List.setIfInBounds_toArray, List.set_cons_zero, List.set_cons_succ] at a2
            refine bodyPost_ret (num_res w.heap.size _ _ _ _ rfl a2) rfl ?_
            exact ⟨by rw [HR.out]; rfl, Below.setCell (Below.setCell BD.out (Nat.le_refl _) _) (Nat.le_refl _) _⟩
end Go.Proofs.YtpmiddhdgidimaaGreatDoor
namespace Go.Proofs.YtpmiddhdgidimaaGreatDoor
open Go.RowKit Go.Proofs.YtpmiddhdgidimaaGreatDoorW.PrintWords

theorem numB_res (p : Nat) (x0 x1 : Value) (tmps : Array Value) (W : World) (t8 : tmps.getD 2 undef = .pointer (some ⟨p, 0, none⟩)) (H : W.heap[p]? = some (.cells #[x0, x1] 52)) :
    (results Tryz.f45 tmps).run Tryz.prog W = .ok (.agg #[x0, x1]) W := by
  have c0 : W.cell? ⟨p, 0, none⟩ = some x0 := blk_cell H 0
  have c1 : W.cell? ⟨p, 1, none⟩ = some x1 := blk_cell H 1
  clear H
  replace t8 : tmps[2]?.getD undef = .pointer (some ⟨p, 0, none⟩) := by simpa using t8
  simp only [results, Tryz.results45]
  simp [Sem.run_bind, Result.andThen, t8, go_sem, c0, c1]
theorem tail_at {s : List UInt8} {k : Nat} (hk : k + 1 < s.length) : s.getD (k + 1) 0 = s.tail.getD k 0 := by
  cases s with
  | nil => simp at hk
  | cons c r => rfl
set_option maxHeartbeats 4000000 in
set_option maxRecDepth 100000 in
theorem rReadBase_8 (s : List UInt8) (w : World) (hs : s.length = 8) :
    Calls Tryz.prog 45 #[.string (mkS s)] w fun e w' => e = .returned (numR (readBaseT s)) ∧ Below w.heap.size w w' := by
  have H := Aside0.mk (heap_alloc_new w (.cells #[.int .i64 0, .bool false] 52))
  have HB := Aside0.mk (below_alloc (Below.refl w.heap.size w) (.cells #[.int .i64 0, .bool false] 52))
  obtain ⟨r, hr⟩ : ∃ r, r = numR (readBaseT s) := ⟨_, rfl⟩
  rw [← hr]
  have HR := Aside0.mk hr
  clear hr
  have hix : ∀ h, (mkS s)[0]'h = s.headD 0 := by
    intro h
    cases s with
    | nil => simp at hs
    | cons c r => simp [mkS, ByteArray.getElem_eq_getElem_data]
  have hcase : ((((s.headD 0).toNat : Int) == 255) = true ∧ accB s = -1) ∨ ((((s.headD 0).toNat : Int) == 255) = false ∧ accB s = 0) := by
    unfold accB
    by_cases h : s.headD 0 = 255
    · left
      rw [h]
      exact ⟨rfl, rfl⟩
    · right
      have h2 : ¬ ((s.headD 0).toNat = 255) := fun e => h (UInt8.toNat_inj.1 e)
      refine ⟨beq_eq_false_iff_ne.2 (fun e => h2 (by omega)), ?_⟩
      rw [if_neg (by simpa using h)]
  obtain ⟨c0, hc0⟩ : ∃ c0, s.headD 0 = c0 := ⟨_, rfl⟩
  rw [hc0] at hcase hix
  clear hc0
  have h12 : s.tail.length + 1 = s.length := by rw [List.length_tail]; omega
  obtain ⟨t, ht⟩ : ∃ t, s.tail = t := ⟨_, rfl⟩
  rw [ht] at h12
  have HT := Aside0.mk ht
  clear ht
  have hsI : (s.length : Int) = 8 := by omega
  rcases hcase with ⟨h255, hacc⟩ | ⟨h255, hacc⟩
  all_goals
    have HACC := Aside0.mk hacc
    clear hacc
    go_enter Tryz.func45, Tryz.ntmps45
  · go_wp2_with fail
    obtain ⟨W, hW⟩ : ∃ W, W = w.alloc (.cells #[.int .i64 0, .bool false] 52) := ⟨_, rfl⟩
    rw [← hW] at H HB ⊢
    clear hW h255 hix
    go_loopw [3, 4] (fun nv iv wr => ∃ (k : Nat) (X : Int), k ≤ t.length ∧ iv = .int .i64 ((k + 1 : Nat) : Int) ∧ nv = .int .i64 X ∧ -9223372036854775808 ≤ X ∧ X ≤ 9223372036854775807 ∧ Aside0 (X = IntKind.i64.wrap (foldB (-1) (t.take k))) ∧ wr = W) (fun _ iv _ => s.length - (intOf iv).toNat)
    case atStart => exact ⟨0, (-1), Nat.zero_le _, rfl, rfl, by decide, by decide, ⟨by rw [List.take_zero]; decide⟩, rfl⟩
    case round =>
      obtain ⟨k, X, hk, rfl, rfl, hX1, hX2, HX, rfl⟩ := hrel
      by_cases hlt : k < t.length
      · have hlt2 : k + 1 < s.length := by omega
        have v1 : ((k + 1 : Nat) : Int) < 8 := by omega
        have hb0 := mkS_at hlt2
        have HA := Aside0.mk (tail_at hlt2)
        obtain ⟨b, hb⟩ : ∃ b, s.getD (k + 1) 0 = b := ⟨_, rfl⟩
        rw [hb] at hb0
        have HBB := Aside0.mk (show t.getD k 0 = b by rw [← HT.out, ← HA.out, hb])
        obtain ⟨q, hq⟩ : ∃ q : Nat, b.toNat = q := ⟨_, rfl⟩
        have hq2 : q < 256 := by rw [← hq]; exact UInt8.toNat_lt _
        obtain ⟨X2, hX2e⟩ : ∃ X2, IntKind.i64.wrap (IntKind.i64.wrap (X * 256) + q) = X2 := ⟨_, rfl⟩
        have hor : Go.bits .or .i64 (wrap64 (X * 256)) (wrap64 (b.toNat : Int)) = X2 := by
          rw [wrap64_eq, wrap64_eq, hq, show IntKind.i64.wrap (q : Int) = q by rw [IntKind.wrap_i64]; omega]
          have h8 : ((2 ^ 8 : Nat) : Int) = 256 := by decide
          rw [or_join 8 _ _ (.inr rfl) (by rw [h8, IntKind.wrap_i64]; omega) (by omega) (by omega), hX2e]
        have hr1 : -9223372036854775808 ≤ X2 ∧ X2 ≤ 9223372036854775807 := by rw [← hX2e, IntKind.wrap_i64]; omega
        have HQ := Aside0.mk hq
        have HE := Aside0.mk hX2e
        have hw1 : IntKind.i64.wrap (((k + 1 : Nat) : Int) + 1) = ((k + 1 + 1 : Nat) : Int) := by rw [IntKind.wrap_i64]; omega
        clear hq hX2e hb
        go_wp2_with fail
        refine ⟨⟨k + 1, X2, by omega, by first | rfl | go_num, by first | rfl | rw [hor], hr1.1, hr1.2, ⟨?_⟩, trivial⟩, by simp [intOf]; omega⟩
        rw [List.take_succ_eq_append_getElem hlt, foldB_snoc]
        have hqe : ((t[k]'hlt).toNat : Int) = q := by
          rw [← HQ.out, ← HBB.out, List.getD_eq_getElem?_getD, List.getElem?_eq_getElem hlt]; rfl
        rw [hqe, ← HE.out, HX.out]
        generalize foldB (-1) (t.take k) = F
        simp only [IntKind.wrap_i64]
        omega
      · obtain rfl : k = t.length := by omega
        have v1 : ¬ ((t.length + 1 : Nat) : Int) < 8 := by omega
        rw [List.take_length] at HX
        have hv : readBV s = X := by unfold readBV; rw [HACC.out, HT.out, HX.out]
        have hbase := fun W => rBase_any X 8 W (by decide) hX1 hX2
        have hT : readBaseT s = if baseOk 8 X = true ∧ baseL 8 X = s then some X else none := by unfold readBaseT; rw [hv, hs]
        rw [show ((8 : Nat) : Int) = 8 from rfl] at hbase
        clear hX1 hX2 HX hv
        have hsz2 : (mkS s).size = 8 := by rw [size_mkS, hs]
        cases hok : baseOk 8 X with
        | false =>
          simp only [hok, Bool.false_eq_true, if_false, false_and, saidR] at hbase hT
          have HR2 := Aside0.mk (show r = numR none by rw [HR.out, hT])
          have HO2 := Aside0.mk (hbase wr)
          clear hbase hT
          go_wp2_with fail
          refine HO2.out.mono ?_
          rintro e w2 ⟨rfl, hb2⟩
          have H2 := Aside0.mk ((hb2.block _ (blk_lt H.out)).trans H.out)
          have B2 := Aside0.mk (below_next HB.out hb2)
          clear hb2 HO2
          have H3 := Aside0.mk (blk_alloc H2.out (.cells #[.string ⟨#[]⟩, .bool false] 64))
          have B3 := Aside0.mk (below_alloc B2.out (.cells #[.string ⟨#[]⟩, .bool false] 64))
          have d0 : (w2.alloc (.cells #[.string ⟨#[]⟩, .bool false] 64)).cell? ⟨w.heap.size, 0, none⟩ = some (.int .i64 0) := blk_cell H3.out 0
          have d1 : (w2.alloc (.cells #[.string ⟨#[]⟩, .bool false] 64)).cell? ⟨w.heap.size, 1, none⟩ = some (.bool false) := blk_cell H3.out 1
          have g0 := blk_frozen H3.out 0
          have g1 := blk_frozen H3.out 1
          have gh := blk_lt H3.out
          go_wp2_with fail
          have a1 := blk_hit (i := 0) (v := .int .i64 0) H3.out
          have a2 := blk_hit (i := 1) (v := .bool false) a1
          simp only [List.setIfInBounds_toArray, List.set_cons_zero, List.set_cons_succ] at a2
          refine bodyPost_ret (numB_res w.heap.size _ _ _ _ rfl a2) rfl ?_
          exact ⟨by rw [HR2.out]; rfl, Below.setCell (Below.setCell B3.out (Nat.le_refl _) _) (Nat.le_refl _) _⟩
        | true =>
          simp only [hok, if_true, true_and] at hbase hT
          obtain ⟨L, hL⟩ : ∃ L, baseL 8 X = L := ⟨_, rfl⟩
          rw [hL] at hbase hT
          simp only [saidR] at hbase
          have HO2 := Aside0.mk (hbase wr)
          clear hbase hL
          go_wp2_with fail
          refine HO2.out.mono ?_
          rintro e w2 ⟨rfl, hb2⟩
          have H2 := Aside0.mk ((hb2.block _ (blk_lt H.out)).trans H.out)
          have B2 := Aside0.mk (below_next HB.out hb2)
          clear hb2 HO2
          have H3 := Aside0.mk (blk_alloc H2.out (.cells #[.string (mkS L), .bool true] 64))
          have B3 := Aside0.mk (below_alloc B2.out (.cells #[.string (mkS L), .bool true] 64))
          have d0 : (w2.alloc (.cells #[.string (mkS L), .bool true] 64)).cell? ⟨w.heap.size, 0, none⟩ = some (.int .i64 0) := blk_cell H3.out 0
          have d1 : (w2.alloc (.cells #[.string (mkS L), .bool true] 64)).cell? ⟨w.heap.size, 1, none⟩ = some (.bool false) := blk_cell H3.out 1
          have g0 := blk_frozen H3.out 0
          have g1 := blk_frozen H3.out 1
          have gh := blk_lt H3.out
          by_cases hls : L = s
          · subst hls
            rw [if_pos rfl] at hT
            have HR2 := Aside0.mk (show r = numR (some X) by rw [HR.out, hT])
            clear hT
            go_wp2_with fail
            have a1 := blk_hit (i := 0) (v := .int .i64 X) H3.out
            have a2 := blk_hit (i := 1) (v := .bool true) a1
            simp only [List.setIfInBounds_toArray, List.set_cons_zero, List.set_cons_succ] at a2
            refine bodyPost_ret (numB_res w.heap.size _ _ _ _ rfl a2) rfl ?_
            exact ⟨by rw [HR2.out]; rfl, Below.setCell (Below.setCell B3.out (Nat.le_refl _) _) (Nat.le_refl _) _⟩
          · rw [if_neg hls] at hT
            have HR2 := Aside0.mk (show r = numR none by rw [HR.out, hT])
            have hq : (L == s) = false := by simpa using hls
            clear hT hls
            go_wp2_with fail
            have a1 := blk_hit (i := 0) (v := .int .i64 0) H3.out
            have a2 := blk_hit (i := 1) (v := .bool false) a1
            simp only [List.setIfInBounds_toArray, List.set_cons_zero, List.set_cons_succ] at a2
            refine bodyPost_ret (numB_res w.heap.size _ _ _ _ rfl a2) rfl ?_
            exact ⟨by rw [HR2.out]; rfl, Below.setCell (Below.setCell B3.out (Nat.le_refl _) _) (Nat.le_refl _) _⟩
  · go_wp2_with fail
    obtain ⟨W, hW⟩ : ∃ W, W = w.alloc (.cells #[.int .i64 0, .bool false] 52) := ⟨_, rfl⟩
    rw [← hW] at H HB ⊢
    clear hW h255 hix
    go_loopw [3, 4] (fun nv iv wr => ∃ (k : Nat) (X : Int), k ≤ t.length ∧ iv = .int .i64 ((k + 1 : Nat) : Int) ∧ nv = .int .i64 X ∧ -9223372036854775808 ≤ X ∧ X ≤ 9223372036854775807 ∧ Aside0 (X = IntKind.i64.wrap (foldB 0 (t.take k))) ∧ wr = W) (fun _ iv _ => s.length - (intOf iv).toNat)
    case atStart => exact ⟨0, 0, Nat.zero_le _, rfl, rfl, by decide, by decide, ⟨by rw [List.take_zero]; decide⟩, rfl⟩
    case round =>
      obtain ⟨k, X, hk, rfl, rfl, hX1, hX2, HX, rfl⟩ := hrel
      by_cases hlt : k < t.length
      · have hlt2 : k + 1 < s.length := by omega
        have v1 : ((k + 1 : Nat) : Int) < 8 := by omega
        have hb0 := mkS_at hlt2
        have HA := Aside0.mk (tail_at hlt2)
        obtain ⟨b, hb⟩ : ∃ b, s.getD (k + 1) 0 = b := ⟨_, rfl⟩
        rw [hb] at hb0
        have HBB := Aside0.mk (show t.getD k 0 = b by rw [← HT.out, ← HA.out, hb])
        obtain ⟨q, hq⟩ : ∃ q : Nat, b.toNat = q := ⟨_, rfl⟩
        have hq2 : q < 256 := by rw [← hq]; exact UInt8.toNat_lt _
        obtain ⟨X2, hX2e⟩ : ∃ X2, IntKind.i64.wrap (IntKind.i64.wrap (X * 256) + q) = X2 := ⟨_, rfl⟩
        have hor : Go.bits .or .i64 (wrap64 (X * 256)) (wrap64 (b.toNat : Int)) = X2 := by
          rw [wrap64_eq, wrap64_eq, hq, show IntKind.i64.wrap (q : Int) = q by rw [IntKind.wrap_i64]; omega]
          have h8 : ((2 ^ 8 : Nat) : Int) = 256 := by decide
          rw [or_join 8 _ _ (.inr rfl) (by rw [h8, IntKind.wrap_i64]; omega) (by omega) (by omega), hX2e]
        have hr1 : -9223372036854775808 ≤ X2 ∧ X2 ≤ 9223372036854775807 := by rw [← hX2e, IntKind.wrap_i64]; omega
        have HQ := Aside0.mk hq
        have HE := Aside0.mk hX2e
        have hw1 : IntKind.i64.wrap (((k + 1 : Nat) : Int) + 1) = ((k + 1 + 1 : Nat) : Int) := by rw [IntKind.wrap_i64]; omega
        clear hq hX2e hb
        go_wp2_with fail
        refine ⟨⟨k + 1, X2, by omega, by first | rfl | go_num, by first | rfl | rw [hor], hr1.1, hr1.2, ⟨?_⟩, trivial⟩, by simp [intOf]; omega⟩
        rw [List.take_succ_eq_append_getElem hlt, foldB_snoc]
        have hqe : ((t[k]'hlt).toNat : Int) = q := by
          rw [← HQ.out, ← HBB.out, List.getD_eq_getElem?_getD, List.getElem?_eq_getElem hlt]; rfl
        rw [hqe, ← HE.out, HX.out]
        generalize foldB 0 (t.take k) = F
        simp only [IntKind.wrap_i64]
        omega
      · obtain rfl : k = t.length := by omega
        have v1 : ¬ ((t.length + 1 : Nat) : Int) < 8 := by omega
        rw [List.take_length] at HX
        have hv : readBV s = X := by unfold readBV; rw [HACC.out, HT.out, HX.out]
        have hbase := fun W => rBase_any X 8 W (by decide) hX1 hX2
        have hT : readBaseT s = if baseOk 8 X = true ∧ baseL 8 X = s then some X else none := by unfold readBaseT; rw [hv, hs]
        rw [show ((8 : Nat) : Int) = 8 from rfl] at hbase
        clear hX1 hX2 HX hv
        have hsz2 : (mkS s).size = 8 := by rw [size_mkS, hs]
        cases hok : baseOk 8 X with
        | false =>
          simp only [hok, Bool.false_eq_true, if_false, false_and, saidR] at hbase hT
          have HR2 := Aside0.mk (show r = numR none by rw [HR.out, hT])
          have HO2 := Aside0.mk (hbase wr)
          clear hbase hT
          go_wp2_with fail
          refine HO2.out.mono ?_
          rintro e w2 ⟨rfl, hb2⟩
          have H2 := Aside0.mk ((hb2.block _ (blk_lt H.out)).trans H.out)
          have B2 := Aside0.mk (below_next HB.out hb2)
          clear hb2 HO2
          have H3 := Aside0.mk (blk_alloc H2.out (.cells #[.string ⟨#[]⟩, .bool false] 64))
          have B3 := Aside0.mk (below_alloc B2.out (.cells #[.string ⟨#[]⟩, .bool false] 64))
          have d0 : (w2.alloc (.cells #[.string ⟨#[]⟩, .bool false] 64)).cell? ⟨w.heap.size, 0, none⟩ = some (.int .i64 0) := blk_cell H3.out 0
          have d1 : (w2.alloc (.cells #[.string ⟨#[]⟩, .bool false] 64)).cell? ⟨w.heap.size, 1, none⟩ = some (.bool false) := blk_cell H3.out 1
          have g0 := blk_frozen H3.out 0
          have g1 := blk_frozen H3.out 1
          have gh := blk_lt H3.out
          go_wp2_with fail
          have a1 := blk_hit (i := 0) (v := .int .i64 0) H3.out
          have a2 := blk_hit (i := 1) (v := .bool false) a1
          simp only [List.setIfInBounds_toArray, List.set_cons_zero, List.set_cons_succ] at a2
          refine bodyPost_ret (numB_res w.heap.size _ _ _ _ rfl a2) rfl ?_
          exact ⟨by rw [HR2.out]; rfl, Below.setCell (Below.setCell B3.out (Nat.le_refl _) _) (Nat.le_refl _) _⟩
        | true =>
          simp only [hok, if_true, true_and] at hbase hT
          obtain ⟨L, hL⟩ : ∃ L, baseL 8 X = L := ⟨_, rfl⟩
          rw [hL] at hbase hT
          simp only [saidR] at hbase
          have HO2 := Aside0.mk (hbase wr)
          clear hbase hL
          go_wp2_with fail
          refine HO2.out.mono ?_
          rintro e w2 ⟨rfl, hb2⟩
          have H2 := Aside0.mk ((hb2.block _ (blk_lt H.out)).trans H.out)
          have B2 := Aside0.mk (below_next HB.out hb2)
          clear hb2 HO2
          have H3 := Aside0.mk (blk_alloc H2.out (.cells #[.string (mkS L), .bool true] 64))
          have B3 := Aside0.mk (below_alloc B2.out (.cells #[.string (mkS L), .bool true] 64))
          have d0 : (w2.alloc (.cells #[.string (mkS L), .bool true] 64)).cell? ⟨w.heap.size, 0, none⟩ = some (.int .i64 0) := blk_cell H3.out 0
          have d1 : (w2.alloc (.cells #[.string (mkS L), .bool true] 64)).cell? ⟨w.heap.size, 1, none⟩ = some (.bool false) := blk_cell H3.out 1
          have g0 := blk_frozen H3.out 0
          have g1 := blk_frozen H3.out 1
          have gh := blk_lt H3.out
          by_cases hls : L = s
          · subst hls
            rw [if_pos rfl] at hT
            have HR2 := Aside0.mk (show r = numR (some X) by rw [HR.out, hT])
            clear hT
            go_wp2_with fail
            have a1 := blk_hit (i := 0) (v := .int .i64 X) H3.out
            have a2 := blk_hit (i := 1) (v := .bool true) a1
            simp only [List.setIfInBounds_toArray, List.set_cons_zero, List.set_cons_succ] at a2
            refine bodyPost_ret (numB_res w.heap.size _ _ _ _ rfl a2) rfl ?_
            exact ⟨by rw [HR2.out]; rfl, Below.setCell (Below.setCell B3.out (Nat.le_refl _) _) (Nat.le_refl _) _⟩
          · rw [if_neg hls] at hT
            have HR2 := Aside0.mk (show r = numR none by rw [HR.out, hT])
            have hq : (L == s) = false := by simpa using hls
            clear hT hls
            go_wp2_with fail
            have a1 := blk_hit (i := 0) (v := .int .i64 0) H3.out
            have a2 := blk_hit (i := 1) (v := .bool false) a1
            simp only [List.setIfInBounds_toArray, List.set_cons_zero, List.set_cons_succ] at a2
            refine bodyPost_ret (numB_res w.heap.size _ _ _ _ rfl a2) rfl ?_
            exact ⟨by rw [HR2.out]; rfl, Below.setCell (Below.setCell B3.out (Nat.le_refl _) _) (Nat.le_refl _) _⟩
set_option maxHeartbeats 4000000 in
set_option maxRecDepth 100000 in
theorem rReadBase_12 (s : List UInt8) (w : World) (hs : s.length = 12) :
    Calls Tryz.prog 45 #[.string (mkS s)] w fun e w' => e = .returned (numR (readBaseT s)) ∧ Below w.heap.size w w' := by
  have H := Aside0.mk (heap_alloc_new w (.cells #[.int .i64 0, .bool false] 52))
  have HB := Aside0.mk (below_alloc (Below.refl w.heap.size w) (.cells #[.int .i64 0, .bool false] 52))
  obtain ⟨r, hr⟩ : ∃ r, r = numR (readBaseT s) := ⟨_, rfl⟩
  rw [← hr]
  have HR := Aside0.mk hr
  clear hr
  have hix : ∀ h, (mkS s)[0]'h = s.headD 0 := by
    intro h
    cases s with
    | nil => simp at hs
    | cons c r => simp [mkS, ByteArray.getElem_eq_getElem_data]
  have hcase : ((((s.headD 0).toNat : Int) == 255) = true ∧ accB s = -1) ∨ ((((s.headD 0).toNat : Int) == 255) = false ∧ accB s = 0) := by
    unfold accB
    by_cases h : s.headD 0 = 255
    · left
      rw [h]
      exact ⟨rfl, rfl⟩
    · right
      have h2 : ¬ ((s.headD 0).toNat = 255) := fun e => h (UInt8.toNat_inj.1 e)
      refine ⟨beq_eq_false_iff_ne.2 (fun e => h2 (by omega)), ?_⟩
      rw [if_neg (by simpa using h)]
  obtain ⟨c0, hc0⟩ : ∃ c0, s.headD 0 = c0 := ⟨_, rfl⟩
  rw [hc0] at hcase hix
  clear hc0
  have h12 : s.tail.length + 1 = s.length := by rw [List.length_tail]; omega
  obtain ⟨t, ht⟩ : ∃ t, s.tail = t := ⟨_, rfl⟩
  rw [ht] at h12
  have HT := Aside0.mk ht
  clear ht
  have hsI : (s.length : Int) = 12 := by omega
  rcases hcase with ⟨h255, hacc⟩ | ⟨h255, hacc⟩
  all_goals
    have HACC := Aside0.mk hacc
    clear hacc
    go_enter Tryz.func45, Tryz.ntmps45
  · go_wp2_with fail
    obtain ⟨W, hW⟩ : ∃ W, W = w.alloc (.cells #[.int .i64 0, .bool false] 52) := ⟨_, rfl⟩
    rw [← hW] at H HB ⊢
    clear hW h255 hix
    go_loopw [3, 4] (fun nv iv wr => ∃ (k : Nat) (X : Int), k ≤ t.length ∧ iv = .int .i64 ((k + 1 : Nat) : Int) ∧ nv = .int .i64 X ∧ -9223372036854775808 ≤ X ∧ X ≤ 9223372036854775807 ∧ Aside0 (X = IntKind.i64.wrap (foldB (-1) (t.take k))) ∧ wr = W) (fun _ iv _ => s.length - (intOf iv).toNat)
    case atStart => exact ⟨0, (-1), Nat.zero_le _, rfl, rfl, by decide, by decide, ⟨by rw [List.take_zero]; decide⟩, rfl⟩
    case round =>
      obtain ⟨k, X, hk, rfl, rfl, hX1, hX2, HX, rfl⟩ := hrel
      by_cases hlt : k < t.length
      · have hlt2 : k + 1 < s.length := by omega
        have v1 : ((k + 1 : Nat) : Int) < 12 := by omega
        have hb0 := mkS_at hlt2
        have HA := Aside0.mk (tail_at hlt2)
        obtain ⟨b, hb⟩ : ∃ b, s.getD (k + 1) 0 = b := ⟨_, rfl⟩
        rw [hb] at hb0
        have HBB := Aside0.mk (show t.getD k 0 = b by rw [← HT.out, ← HA.out, hb])
        obtain ⟨q, hq⟩ : ∃ q : Nat, b.toNat = q := ⟨_, rfl⟩
        have hq2 : q < 256 := by rw [← hq]; exact UInt8.toNat_lt _
        obtain ⟨X2, hX2e⟩ : ∃ X2, IntKind.i64.wrap (IntKind.i64.wrap (X * 256) + q) = X2 := ⟨_, rfl⟩
        have hor : Go.bits .or .i64 (wrap64 (X * 256)) (wrap64 (b.toNat : Int)) = X2 := by
          rw [wrap64_eq, wrap64_eq, hq, show IntKind.i64.wrap (q : Int) = q by rw [IntKind.wrap_i64]; omega]
          have h8 : ((2 ^ 8 : Nat) : Int) = 256 := by decide
          rw [or_join 8 _ _ (.inr rfl) (by rw [h8, IntKind.wrap_i64]; omega) (by omega) (by omega), hX2e]
        have hr1 : -9223372036854775808 ≤ X2 ∧ X2 ≤ 9223372036854775807 := by rw [← hX2e, IntKind.wrap_i64]; omega
        have HQ := Aside0.mk hq
        have HE := Aside0.mk hX2e
        have hw1 : IntKind.i64.wrap (((k + 1 : Nat) : Int) + 1) = ((k + 1 + 1 : Nat) : Int) := by rw [IntKind.wrap_i64]; omega
        clear hq hX2e hb
        go_wp2_with fail
        refine ⟨⟨k + 1, X2, by omega, by first | rfl | go_num, by first | rfl | rw [hor], hr1.1, hr1.2, ⟨?_⟩, trivial⟩, by simp [intOf]; omega⟩
        rw [List.take_succ_eq_append_getElem hlt, foldB_snoc]
        have hqe : ((t[k]'hlt).toNat : Int) = q := by
          rw [← HQ.out, ← HBB.out, List.getD_eq_getElem?_getD, List.getElem?_eq_getElem hlt]; rfl
        rw [hqe, ← HE.out, HX.out]
        generalize foldB (-1) (t.take k) = F
        simp only [IntKind.wrap_i64]
        omega
      · obtain rfl : k = t.length := by omega
        have v1 : ¬ ((t.length + 1 : Nat) : Int) < 12 := by omega
        rw [List.take_length] at HX
        have hv : readBV s = X := by unfold readBV; rw [HACC.out, HT.out, HX.out]
        have hbase := fun W => rBase_any X 12 W (by decide) hX1 hX2
        have hT : readBaseT s = if baseOk 12 X = true ∧ baseL 12 X = s then some X else none := by unfold readBaseT; rw [hv, hs]
        rw [show ((12 : Nat) : Int) = 12 from rfl] at hbase
        clear hX1 hX2 HX hv
        have hsz2 : (mkS s).size = 12 := by rw [size_mkS, hs]
        cases hok : baseOk 12 X with
        | false =>
          simp only [hok, Bool.false_eq_true, if_false, false_and, saidR] at hbase hT
          have HR2 := Aside0.mk (show r = numR none by rw [HR.out, hT])
          have HO2 := Aside0.mk (hbase wr)
          clear hbase hT
          go_wp2_with fail
          refine HO2.out.mono ?_
          rintro e w2 ⟨rfl, hb2⟩
          have H2 := Aside0.mk ((hb2.block _ (blk_lt H.out)).trans H.out)
          have B2 := Aside0.mk (below_next HB.out hb2)
          clear hb2 HO2
          have H3 := Aside0.mk (blk_alloc H2.out (.cells #[.string ⟨#[]⟩, .bool false] 64))
          have B3 := Aside0.mk (below_alloc B2.out (.cells #[.string ⟨#[]⟩, .bool false] 64))
          have d0 : (w2.alloc (.cells #[.string ⟨#[]⟩, .bool false] 64)).cell? ⟨w.heap.size, 0, none⟩ = some (.int .i64 0) := blk_cell H3.out 0
          have d1 : (w2.alloc (.cells #[.string ⟨#[]⟩, .bool false] 64)).cell? ⟨w.heap.size, 1, none⟩ = some (.bool false) := blk_cell H3.out 1
          have g0 := blk_frozen H3.out 0
          have g1 := blk_frozen H3.out 1
          have gh := blk_lt H3.out
          go_wp2_with fail
          have a1 := blk_hit (i := 0) (v := .int .i64 0) H3.out
          have a2 := blk_hit (i := 1) (v := .bool false) a1
          simp only [List.setIfInBounds_toArray, List.set_cons_zero, List.set_cons_succ] at a2
          refine bodyPost_ret (numB_res w.heap.size _ _ _ _ rfl a2) rfl ?_
          exact ⟨by rw [HR2.out]; rfl, Below.setCell (Below.setCell B3.out (Nat.le_refl _) _) (Nat.le_refl _) _⟩
        | true =>
          simp only [hok, if_true, true_and] at hbase hT
          obtain ⟨L, hL⟩ : ∃ L, baseL 12 X = L := ⟨_, rfl⟩
          rw [hL] at hbase hT
          simp only [saidR] at hbase
          have HO2 := Aside0.mk (hbase wr)
          clear hbase hL
          go_wp2_with fail
          refine HO2.out.mono ?_
          rintro e w2 ⟨rfl, hb2⟩
          have H2 := Aside0.mk ((hb2.block _ (blk_lt H.out)).trans H.out)
          have B2 := Aside0.mk (below_next HB.out hb2)
          clear hb2 HO2
          have H3 := Aside0.mk (blk_alloc H2.out (.cells #[.string (mkS L), .bool true] 64))
          have B3 := Aside0.mk (below_alloc B2.out (.cells #[.string (mkS L), .bool true] 64))
          have d0 : (w2.alloc (.cells #[.string (mkS L), .bool true] 64)).cell? ⟨w.heap.size, 0, none⟩ = some (.int .i64 0) := blk_cell H3.out 0
          have d1 : (w2.alloc (.cells #[.string (mkS L), .bool true] 64)).cell? ⟨w.heap.size, 1, none⟩ = some (.bool false) := blk_cell H3.out 1
          have g0 := blk_frozen H3.out 0
          have g1 := blk_frozen H3.out 1
          have gh := blk_lt H3.out
          by_cases hls : L = s
          · subst hls
            rw [if_pos rfl] at hT
            have HR2 := Aside0.mk (show r = numR (some X) by rw [HR.out, hT])
            clear hT
            go_wp2_with fail
            have a1 := blk_hit (i := 0) (v := .int .i64 X) H3.out
            have a2 := blk_hit (i := 1) (v := .bool true) a1
            simp only [List.setIfInBounds_toArray, List.set_cons_zero, List.set_cons_succ] at a2
            refine bodyPost_ret (numB_res w.heap.size _ _ _ _ rfl a2) rfl ?_
            exact ⟨by rw [HR2.out]; rfl, Below.setCell (Below.setCell B3.out (Nat.le_refl _) _) (Nat.le_refl _) _⟩
          · rw [if_neg hls] at hT
            have HR2 := Aside0.mk (show r = numR none by rw [HR.out, hT])
            have hq : (L == s) = false := by simpa using hls
            clear hT hls
            go_wp2_with fail
            have a1 := blk_hit (i := 0) (v := .int .i64 0) H3.out
            have a2 := blk_hit (i := 1) (v := .bool false) a1
            simp only [List.setIfInBounds_toArray, List.set_cons_zero, List.set_cons_succ] at a2
            refine bodyPost_ret (numB_res w.heap.size _ _ _ _ rfl a2) rfl ?_
            exact ⟨by rw [HR2.out]; rfl, Below.setCell (Below.setCell B3.out (Nat.le_refl _) _) (Nat.le_refl _) _⟩
  · go_wp2_with fail
    obtain ⟨W, hW⟩ : ∃ W, W = w.alloc (.cells #[.int .i64 0, .bool false] 52) := ⟨_, rfl⟩
    rw [← hW] at H HB ⊢
    clear hW h255 hix
    go_loopw [3, 4] (fun nv iv wr => ∃ (k : Nat) (X : Int), k ≤ t.length ∧ iv = .int .i64 ((k + 1 : Nat) : Int) ∧ nv = .int .i64 X ∧ -9223372036854775808 ≤ X ∧ X ≤ 9223372036854775807 ∧ Aside0 (X = IntKind.i64.wrap (foldB 0 (t.take k))) ∧ wr = W) (fun _ iv _ => s.length - (intOf iv).toNat)
    case atStart => exact ⟨0, 0, Nat.zero_le _, rfl, rfl, by decide, by decide, ⟨by rw [List.take_zero]; decide⟩, rfl⟩
    case round =>
      obtain ⟨k, X, hk, rfl, rfl, hX1, hX2, HX, rfl⟩ := hrel
      by_cases hlt : k < t.length
      · have hlt2 : k + 1 < s.length := by omega
        have v1 : ((k + 1 : Nat) : Int) < 12 := by omega
        have hb0 := mkS_at hlt2
        have HA := Aside0.mk (tail_at hlt2)
        obtain ⟨b, hb⟩ : ∃ b, s.getD (k + 1) 0 = b := ⟨_, rfl⟩
        rw [hb] at hb0
        have HBB := Aside0.mk (show t.getD k 0 = b by rw [← HT.out, ← HA.out, hb])
        obtain ⟨q, hq⟩ : ∃ q : Nat, b.toNat = q := ⟨_, rfl⟩
        have hq2 : q < 256 := by rw [← hq]; exact UInt8.toNat_lt _
        obtain ⟨X2, hX2e⟩ : ∃ X2, IntKind.i64.wrap (IntKind.i64.wrap (X * 256) + q) = X2 := ⟨_, rfl⟩
        have hor : Go.bits .or .i64 (wrap64 (X * 256)) (wrap64 (b.toNat : Int)) = X2 := by
          rw [wrap64_eq, wrap64_eq, hq, show IntKind.i64.wrap (q : Int) = q by rw [IntKind.wrap_i64]; omega]
          have h8 : ((2 ^ 8 : Nat) : Int) = 256 := by decide
          rw [or_join 8 _ _ (.inr rfl) (by rw [h8, IntKind.wrap_i64]; omega) (by omega) (by omega), hX2e]
        have hr1 : -9223372036854775808 ≤ X2 ∧ X2 ≤ 9223372036854775807 := by rw [← hX2e, IntKind.wrap_i64]; omega
        have HQ := Aside0.mk hq
        have HE := Aside0.mk hX2e
        have hw1 : IntKind.i64.wrap (((k + 1 : Nat) : Int) + 1) = ((k + 1 + 1 : Nat) : Int) := by rw [IntKind.wrap_i64]; omega
        clear hq hX2e hb
        go_wp2_with fail
        refine ⟨⟨k + 1, X2, by omega, by first | rfl | go_num, by first | rfl | rw [hor], hr1.1, hr1.2, ⟨?_⟩, trivial⟩, by simp [intOf]; omega⟩
        rw [List.take_succ_eq_append_getElem hlt, foldB_snoc]
        have hqe : ((t[k]'hlt).toNat : Int) = q := by
          rw [← HQ.out, ← HBB.out, List.getD_eq_getElem?_getD, List.getElem?_eq_getElem hlt]; rfl
        rw [hqe, ← HE.out, HX.out]
        generalize foldB 0 (t.take k) = F
        simp only [IntKind.wrap_i64]
        omega
      · obtain rfl : k = t.length := by omega
        have v1 : ¬ ((t.length + 1 : Nat) : Int) < 12 := by omega
        rw [List.take_length] at HX
        have hv : readBV s = X := by unfold readBV; rw [HACC.out, HT.out, HX.out]
        have hbase := fun W => rBase_any X 12 W (by decide) hX1 hX2
        have hT : readBaseT s = if baseOk 12 X = true ∧ baseL 12 X = s then some X else none := by unfold readBaseT; rw [hv, hs]
        rw [show ((12 : Nat) : Int) = 12 from rfl] at hbase
        clear hX1 hX2 HX hv
        have hsz2 : (mkS s).size = 12 := by rw [size_mkS, hs]
        cases hok : baseOk 12 X with
        | false =>
          simp only [hok, Bool.false_eq_true, if_false, false_and, saidR] at hbase hT
          have HR2 := Aside0.mk (show r = numR none by rw [HR.out, hT])
          have HO2 := Aside0.mk (hbase wr)
          clear hbase hT
          go_wp2_with fail
          refine HO2.out.mono ?_
          rintro e w2 ⟨rfl, hb2⟩
          have H2 := Aside0.mk ((hb2.block _ (blk_lt H.out)).trans H.out)
          have B2 := Aside0.mk (below_next HB.out hb2)
          clear hb2 HO2
          have H3 := Aside0.mk (blk_alloc H2.out (.cells #[.string ⟨#[]⟩, .bool false] 64))
          have B3 := Aside0.mk (below_alloc B2.out (.cells #[.string ⟨#[]⟩, .bool false] 64))
          have d0 : (w2.alloc (.cells #[.string ⟨#[]⟩, .bool false] 64)).cell? ⟨w.heap.size, 0, none⟩ = some (.int .i64 0) := blk_cell H3.out 0
          have d1 : (w2.alloc (.cells #[.string ⟨#[]⟩, .bool false] 64)).cell? ⟨w.heap.size, 1, none⟩ = some (.bool false) := blk_cell H3.out 1
          have g0 := blk_frozen H3.out 0
          have g1 := blk_frozen H3.out 1
          have gh := blk_lt H3.out
          go_wp2_with fail
          have a1 := blk_hit (i := 0) (v := .int .i64 0) H3.out
          have a2 := blk_hit (i := 1) (v := .bool false) a1
          simp only [List.setIfInBounds_toArray, List.set_cons_zero, List.set_cons_succ] at a2
          refine bodyPost_ret (numB_res w.heap.size _ _ _ _ rfl a2) rfl ?_
          exact ⟨by rw [HR2.out]; rfl, Below.setCell (Below.setCell B3.out (Nat.le_refl _) _) (Nat.le_refl _) _⟩
        | true =>
          simp only [hok, if_true, true_and] at hbase hT
          obtain ⟨L, hL⟩ : ∃ L, baseL 12 X = L := ⟨_, rfl⟩
          rw [hL] at hbase hT
          simp only [saidR] at hbase
          have HO2 := Aside0.mk (hbase wr)
          clear hbase hL
          go_wp2_with fail
          refine HO2.out.mono ?_
          rintro e w2 ⟨rfl, hb2⟩
          have H2 := Aside0.mk ((hb2.block _ (blk_lt H.out)).trans H.out)
          have B2 := Aside0.mk (below_next HB.out hb2)
          clear hb2 HO2
          have H3 := Aside0.mk (blk_alloc H2.out (.cells #[.string (mkS L), .bool true] 64))
          have B3 := Aside0.mk (below_alloc B2.out (.cells #[.string (mkS L), .bool true] 64))
          have d0 : (w2.alloc (.cells #[.string (mkS L), .bool true] 64)).cell? ⟨w.heap.size, 0, none⟩ = some (.int .i64 0) := blk_cell H3.out 0
          have d1 : (w2.alloc (.cells #[.string (mkS L), .bool true] 64)).cell? ⟨w.heap.size, 1, none⟩ = some (.bool false) := blk_cell H3.out 1
          have g0 := blk_frozen H3.out 0
          have g1 := blk_frozen H3.out 1
          have gh := blk_lt H3.out
          by_cases hls : L = s
          · subst hls
            rw [if_pos rfl] at hT
            have HR2 := Aside0.mk (show r = numR (some X) by rw [HR.out, hT])
            clear hT
            go_wp2_with fail
            have a1 := blk_hit (i := 0) (v := .int .i64 X) H3.out
            have a2 := blk_hit (i := 1) (v := .bool true) a1
            simp only [List.setIfInBounds_toArray, List.set_cons_zero, List.set_cons_succ] at a2
            refine bodyPost_ret (numB_res w.heap.size _ _ _ _ rfl a2) rfl ?_
            exact ⟨by rw [HR2.out]; rfl, Below.setCell (Below.setCell B3.out (Nat.le_refl _) _) (Nat.le_refl _) _⟩
          · rw [if_neg hls] at hT
            have HR2 := Aside0.mk (show r = numR none by rw [HR.out, hT])
            have hq : (L == s) = false := by simpa using hls
            clear hT hls
            go_wp2_with fail
            have a1 := blk_hit (i := 0) (v := .int .i64 0) H3.out
            have a2 := blk_hit (i := 1) (v := .bool false) a1
            simp only [List.setIfInBounds_toArray, List.set_cons_zero, List.set_cons_succ] at a2
            refine bodyPost_ret (numB_res w.heap.size _ _ _ _ rfl a2) rfl ?_
            exact ⟨by rw [HR2.out]; rfl, Below.setCell (Below.setCell B3.out (Nat.le_refl _) _) (Nat.le_refl _) _⟩
theorem rReadBase_any (s : List UInt8) (w : World) (hs : s.length = 8 ∨ s.length = 12) :
    Calls Tryz.prog 45 #[.string (mkS s)] w fun e w' => e = .returned (numR (readBaseT s)) ∧ Below w.heap.size w w' := by
  rcases hs with hs | hs
  · exact rReadBase_8 s w hs
  · exact rReadBase_12 s w hs
end Go.Proofs.YtpmiddhdgidimaaGreatDoor
namespace Go.Proofs.YtpmiddhdgidimaaGreatDoor
open Go.RowKit Go.Proofs.YtpmiddhdgidimaaGreatDoorW.PrintWords

/-- What the reference's ReadField says of a number by bytes. -/
theorem readField_ref {s : List UInt8} (hs : s.length = 8 ∨ s.length = 12) {n : Int} (ho : readOctT s = none) (hb : readBaseT s = some n) : readFieldT s = if octOk s.length n = true then none else some n := by
  unfold readFieldT
  rw [ho, hb]
  simp only
  unfold readBaseT at hb
  split at hb
  · rename_i hc
    injection hb with hb
    obtain ⟨h1, h2⟩ := hc
    rw [hb] at h1 h2
    unfold fieldT
    by_cases hk : octOk s.length n = true
    · rw [if_pos hk, if_pos hk, if_neg]
      intro he
      injection he with he
      have h5 : s.headD 0 = signB n := by rw [← h2]; rfl
      have h6 : ∃ c r, octL s.length n.toNat = c :: r ∧ c.toNat < 64 := by
        rcases hs with e | e <;> rw [e]
        · refine ⟨_, _, by unfold octL; rw [show 8 - 1 = 6 + 1 from rfl, octD_cons]; rfl, ?_⟩
          simp [UInt8.toNat_ofNat']; omega
        · refine ⟨_, _, by unfold octL; rw [show 12 - 1 = 10 + 1 from rfl, octD_cons]; rfl, ?_⟩
          simp [UInt8.toNat_ofNat']; omega
      obtain ⟨c, r, h7, h8⟩ := h6
      rw [← he, h7] at h5
      simp only [List.headD_cons] at h5
      rw [h5] at h8
      unfold signB at h8
      split at h8 <;> exact absurd h8 (by decide)
    · rw [if_neg hk, if_neg hk, if_pos h1, h2, if_pos rfl]
  · cases hb
theorem numF_res (p : Nat) (x0 x1 : Value) (tmps : Array Value) (W : World) (t8 : tmps.getD 2 undef = .pointer (some ⟨p, 0, none⟩)) (H : W.heap[p]? = some (.cells #[x0, x1] 52)) :
    (results Tryz.f22 tmps).run Tryz.prog W = .ok (.agg #[x0, x1]) W := by
  have c0 : W.cell? ⟨p, 0, none⟩ = some x0 := blk_cell H 0
  have c1 : W.cell? ⟨p, 1, none⟩ = some x1 := blk_cell H 1
  clear H
  replace t8 : tmps[2]?.getD undef = .pointer (some ⟨p, 0, none⟩) := by simpa using t8
  simp only [results, Tryz.results22]
  simp [Sem.run_bind, Result.andThen, t8, go_sem, c0, c1]
set_option maxHeartbeats 4000000 in
set_option maxRecDepth 100000 in
theorem rReadField_any (s : List UInt8) (w : World) (hs : s.length = 8 ∨ s.length = 12) :
    Calls Tryz.prog 22 #[.string (mkS s)] w fun e w' => e = .returned (numR (readFieldT s)) ∧ Below w.heap.size w w' := by
  have H := heap_alloc_new w (.cells #[.int .i64 0, .bool false] 52)
  have HB := Aside0.mk (below_alloc (Below.refl w.heap.size w) (.cells #[.int .i64 0, .bool false] 52))
  obtain ⟨r, hr⟩ : ∃ r, r = numR (readFieldT s) := ⟨_, rfl⟩
  rw [← hr]
  have HR := Aside0.mk hr
  clear hr
  have h1 := fun W => rReadOctal_any s W hs
  have h2 := fun W => rReadBase_any s W hs
  cases ho : readOctT s with
  | some n =>
    rw [ho] at h1
    have H1 := Aside0.mk h1
    have HR2 := Aside0.mk (show r = .agg #[.int .i64 n, .bool true] by rw [HR.out]; unfold readFieldT; rw [ho]; rfl)
    rw [show numR (some n) = .agg #[.int .i64 n, .bool true] from rfl] at H1
    clear h1 h2 ho HR
    go_enter Tryz.func22, Tryz.ntmps22
    go_wp2_with fail
    refine (H1.out _).mono ?_
    rintro e w1 ⟨rfl, hb1⟩
    have H2 := Aside0.mk ((hb1.block _ (blk_lt H)).trans H)
    have B2 := Aside0.mk (below_next HB.out hb1)
    clear hb1 H HB H1
    have c0 : w1.cell? ⟨w.heap.size, 0, none⟩ = some (.int .i64 0) := blk_cell H2.out 0
    have c1 : w1.cell? ⟨w.heap.size, 1, none⟩ = some (.bool false) := blk_cell H2.out 1
    have f0 := blk_frozen H2.out 0
    have f1 := blk_frozen H2.out 1
    have lh := blk_lt H2.out
    go_wp2_with fail
    have a1 := blk_hit (i := 0) (v := .int .i64 n) H2.out
    have a2 := blk_hit (i := 1) (v := .bool true) a1
    simp only [List.setIfInBounds_toArray, List.set_cons_zero, List.set_cons_succ] at a2
    refine bodyPost_ret (numF_res w.heap.size _ _ _ _ rfl (blk_alloc a2 _)) rfl ?_
    exact ⟨by rw [HR2.out], below_alloc (Below.setCell (Below.setCell B2.out (Nat.le_refl _) _) (Nat.le_refl _) _) _⟩
  | none =>
    rw [ho] at h1
    have H1 := Aside0.mk h1
    rw [show numR none = .agg #[.int .i64 0, .bool false] from rfl] at H1
    cases hb : readBaseT s with
    | none =>
      rw [hb] at h2
      have H2' := Aside0.mk h2
      rw [show numR none = .agg #[.int .i64 0, .bool false] from rfl] at H2'
      have HR2 := Aside0.mk (show r = .agg #[.int .i64 0, .bool false] by rw [HR.out]; unfold readFieldT; rw [ho, hb]; rfl)
      clear h1 h2 ho hb HR
      go_enter Tryz.func22, Tryz.ntmps22
      go_wp2_with fail
      refine (H1.out _).mono ?_
      rintro e w1 ⟨rfl, hb1⟩
      have H2 := Aside0.mk ((hb1.block _ (blk_lt H)).trans H)
      have B2 := Aside0.mk (below_next HB.out hb1)
      clear hb1 H HB H1
      have lh := blk_lt H2.out
      go_wp2_with fail
      have H3 := Aside0.mk (blk_alloc H2.out (.cells #[.int .i64 0, .bool false] 52))
      have B3 := Aside0.mk (below_alloc B2.out (.cells #[.int .i64 0, .bool false] 52))
      refine (H2'.out _).mono ?_
      rintro e w2 ⟨rfl, hb2⟩
      have H4 := Aside0.mk ((hb2.block _ (blk_lt H3.out)).trans H3.out)
      have B4 := Aside0.mk (below_next B3.out hb2)
      clear hb2 H2' lh
      have c0 : w2.cell? ⟨w.heap.size, 0, none⟩ = some (.int .i64 0) := blk_cell H4.out 0
      have c1 : w2.cell? ⟨w.heap.size, 1, none⟩ = some (.bool false) := blk_cell H4.out 1
      have f0 := blk_frozen H4.out 0
      have f1 := blk_frozen H4.out 1
      have lh := blk_lt H4.out
      go_wp2_with fail
      have a1 := blk_hit (i := 0) (v := .int .i64 0) H4.out
      have a2 := blk_hit (i := 1) (v := .bool false) a1
      simp only [List.setIfInBounds_toArray, List.set_cons_zero, List.set_cons_succ] at a2
      refine bodyPost_ret (numF_res w.heap.size _ _ _ _ rfl (blk_alloc a2 _)) rfl ?_
      exact ⟨by rw [HR2.out], below_alloc (Below.setCell (Below.setCell B4.out (Nat.le_refl _) _) (Nat.le_refl _) _) _⟩
    | some n =>
      rw [hb] at h2
      have H2' := Aside0.mk h2
      rw [show numR (some n) = .agg #[.int .i64 n, .bool true] from rfl] at H2'
      have hrf := readField_ref hs ho hb
      have hrng : -9223372036854775808 ≤ n ∧ n ≤ 9223372036854775807 := readBase_range hb
      have h3 := fun W => rOctal_any n s.length W hs hrng.1 hrng.2
      have hsI : (mkS s).size = s.length := size_mkS s
      have hfd : ∀ (y : ByteArray) (b : Bool) (w : World), (Instr.field 64 (.agg #[.string y, .bool b]) 1).run Tryz.prog w = .ok (.bool b) w := fun _ _ _ => by kernel_rfl
      cases hk : octOk s.length n with
      | true =>
        simp only [hk, if_true, saidR] at h3 hrf
        obtain ⟨L, hL⟩ : ∃ L, octL s.length n.toNat = L := ⟨_, rfl⟩
        rw [hL] at h3
        have H3' := Aside0.mk h3
        have HR2 := Aside0.mk (show r = .agg #[.int .i64 0, .bool false] by rw [HR.out, hrf]; rfl)
        clear h1 h2 h3 ho hb HR hL hrf hk hrng hs
        go_enter Tryz.func22, Tryz.ntmps22
        go_wp2_with fail
        refine (H1.out _).mono ?_
        rintro e w1 ⟨rfl, hb1⟩
        have H2 := Aside0.mk ((hb1.block _ (blk_lt H)).trans H)
        have B2 := Aside0.mk (below_next HB.out hb1)
        clear hb1 H HB H1
        have lh := blk_lt H2.out
        go_wp2_with fail
        have H3 := Aside0.mk (blk_alloc H2.out (.cells #[.int .i64 0, .bool false] 52))
        have B3 := Aside0.mk (below_alloc B2.out (.cells #[.int .i64 0, .bool false] 52))
        refine (H2'.out _).mono ?_
        rintro e w2 ⟨rfl, hb2⟩
        have H4 := Aside0.mk ((hb2.block _ (blk_lt H3.out)).trans H3.out)
        have B4 := Aside0.mk (below_next B3.out hb2)
        clear hb2 H2' lh
        have H5 := Aside0.mk (blk_alloc H4.out (.cells #[.int .i64 n, .bool true] 52))
        have B5 := Aside0.mk (below_alloc B4.out (.cells #[.int .i64 n, .bool true] 52))
        go_wp2_with fail
        refine (H3'.out _).mono ?_
        rintro e w3 ⟨rfl, hb3⟩
        have H6 := Aside0.mk ((hb3.block _ (blk_lt H5.out)).trans H5.out)
        have B6 := Aside0.mk (below_next B5.out hb3)
        clear hb3 H3'
        have c0 : w3.cell? ⟨w.heap.size, 0, none⟩ = some (.int .i64 0) := blk_cell H6.out 0
        have c1 : w3.cell? ⟨w.heap.size, 1, none⟩ = some (.bool false) := blk_cell H6.out 1
        have f0 := blk_frozen H6.out 0
        have f1 := blk_frozen H6.out 1
        have lh := blk_lt H6.out
        go_wp2_with fail
        have a1 := blk_hit (i := 0) (v := .int .i64 0) H6.out
        have a2 := blk_hit (i := 1) (v := .bool false) a1
        simp only [List.setIfInBounds_toArray, List.set_cons_zero, List.set_cons_succ] at a2
        refine bodyPost_ret (numF_res w.heap.size _ _ _ _ rfl a2) rfl ?_
        exact ⟨by rw [HR2.out], Below.setCell (Below.setCell B6.out (Nat.le_refl _) _) (Nat.le_refl _) _⟩
      | false =>
        simp only [hk, Bool.false_eq_true, if_false, saidR] at h3 hrf
        have H3' := Aside0.mk h3
        have HR2 := Aside0.mk (show r = .agg #[.int .i64 n, .bool true] by rw [HR.out, hrf]; rfl)
        clear h1 h2 h3 ho hb HR hrf hk hrng hs
        go_enter Tryz.func22, Tryz.ntmps22
        go_wp2_with fail
        refine (H1.out _).mono ?_
        rintro e w1 ⟨rfl, hb1⟩
        have H2 := Aside0.mk ((hb1.block _ (blk_lt H)).trans H)
        have B2 := Aside0.mk (below_next HB.out hb1)
        clear hb1 H HB H1
        have lh := blk_lt H2.out
        go_wp2_with fail
        have H3 := Aside0.mk (blk_alloc H2.out (.cells #[.int .i64 0, .bool false] 52))
        have B3 := Aside0.mk (below_alloc B2.out (.cells #[.int .i64 0, .bool false] 52))
        refine (H2'.out _).mono ?_
        rintro e w2 ⟨rfl, hb2⟩
        have H4 := Aside0.mk ((hb2.block _ (blk_lt H3.out)).trans H3.out)
        have B4 := Aside0.mk (below_next B3.out hb2)
        clear hb2 H2' lh
        have Y5 := Aside0.mk (heap_alloc_new w2 (.cells #[.int .i64 n, .bool true] 52))
        have H5 := Aside0.mk (blk_alloc H4.out (.cells #[.int .i64 n, .bool true] 52))
        have B5 := Aside0.mk (below_alloc B4.out (.cells #[.int .i64 n, .bool true] 52))
        go_wp2_with fail
        refine (H3'.out _).mono ?_
        rintro e w3 ⟨rfl, hb3⟩
        have Y6 := Aside0.mk ((hb3.block _ (blk_lt Y5.out)).trans Y5.out)
        have H6 := Aside0.mk ((hb3.block _ (blk_lt H5.out)).trans H5.out)
        have B6 := Aside0.mk (below_next B5.out hb3)
        clear hb3 H3'
        have c0 : w3.cell? ⟨w.heap.size, 0, none⟩ = some (.int .i64 0) := blk_cell H6.out 0
        have c1 : w3.cell? ⟨w.heap.size, 1, none⟩ = some (.bool false) := blk_cell H6.out 1
        have d0 : w3.cell? ⟨w2.heap.size, 0, none⟩ = some (.int .i64 n) := blk_cell Y6.out 0
        have d1 : w3.cell? ⟨w2.heap.size, 1, none⟩ = some (.bool true) := blk_cell Y6.out 1
        have f0 := blk_frozen H6.out 0
        have f1 := blk_frozen H6.out 1
        have lh := blk_lt H6.out
        go_wp2_with fail
        have a1 := blk_hit (i := 0) (v := .int .i64 n) H6.out
        have a2 := blk_hit (i := 1) (v := .bool true) a1
        simp only [List.setIfInBounds_toArray, List.set_cons_zero, List.set_cons_succ] at a2
        refine bodyPost_ret (numF_res w.heap.size _ _ _ _ rfl a2) rfl ?_
        exact ⟨by rw [HR2.out], Below.setCell (Below.setCell B6.out (Nat.le_refl _) _) (Nat.le_refl _) _⟩
end Go.Proofs.YtpmiddhdgidimaaGreatDoor
