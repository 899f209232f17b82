/- The reference of a header: numbers by eights and by bytes, texts, whether a header may be, how a path is split. Conditions: those of each theorem. -/
import Derived.Test.YtpmiddhdgidimaaGreatDoorHeadPut
import Derived.Test.YtpmiddhdgidimaaGreatDoorHeadCatch
import Derived.Test.YtpmiddhdgidimaaGreatDoorZeros
import Derived.Test.YtpmiddhdgidimaaGreatDoorHeadJoin
import Derived.Test.YtpmiddhdgidimaaGreatDoorHeadSplit
set_option linter.unusedVariables false
set_option linter.unusedSimpArgs false
namespace Go.Proofs.YtpmiddhdgidimaaGreatDoor
open Go.RowKit Go.Proofs.YtpmiddhdgidimaaGreatDoorW.PrintWords

theorem octD_front (n : Nat) : ∀ k, octD (k + 1) n = UInt8.ofNat (48 + n / 8 ^ k % 8) :: octD k n := by
  intro k
  induction k generalizing n with
  | zero => simp [octD]
  | succ k ih =>
    rw [octD, ih (n / 8), octD, Nat.div_div_eq_div_mul, ← Nat.pow_succ', List.cons_append]
def saidR (o : Option (List UInt8)) : Value := match o with
  | some l => .agg #[.string (mkS l), .bool true]
  | none => .agg #[.string ⟨#[]⟩, .bool false]
theorem octal_res (p : Nat) (x0 x1 : Value) (tmps : Array Value) (W : World) (t8 : tmps.getD 4 undef = .pointer (some ⟨p, 0, none⟩)) (H : W.heap[p]? = some (.cells #[x0, x1] 64)) :
    (results Tryz.f34 tmps).run Tryz.prog W = .ok (.agg #[x0, x1]) W := by
  have c0 : W.cell? ⟨p, 0, none⟩ = some x0 := blk_cell H 0
  have c1 : W.cell? ⟨p, 1, none⟩ = some x1 := blk_cell H 1
  clear H
  replace t8 : tmps[4]?.getD undef = .pointer (some ⟨p, 0, none⟩) := by simpa using t8
  simp only [results, Tryz.results34]
  simp [Sem.run_bind, Result.andThen, t8, go_sem, c0, c1]
theorem octOk_ge {wd n j : Nat} (hj : wd ≤ j) (hw : 0 < wd) (hp : 0 < n / 8 ^ (j - 1)) : octOk wd (n : Int) = false := by
  have h1 : 8 ^ (j - 1) ≤ n := by
    rcases Nat.lt_or_ge n (8 ^ (j - 1)) with h | h
    · rw [Nat.div_eq_of_lt h] at hp; omega
    · exact h
  have h2 : 8 ^ (wd - 1) ≤ 8 ^ (j - 1) := Nat.pow_le_pow_right (by decide) (by omega)
  unfold octOk
  have : ¬ (n : Int) < ((8 ^ (wd - 1) : Nat) : Int) := by omega
  simp only [this, decide_false, Bool.and_false]
theorem octOk_lt {wd n : Nat} (hp : n / 8 ^ (wd - 1) = 0) : octOk wd (n : Int) = true := by
  have h1 : n < 8 ^ (wd - 1) := by
    rcases Nat.lt_or_ge n (8 ^ (wd - 1)) with h | h
    · exact h
    · have := Nat.div_pos h (Nat.pow_pos (by decide)); omega
  unfold octOk
  have h2 : (n : Int) < ((8 ^ (wd - 1) : Nat) : Int) := by omega
  have h3 : (0 : Int) ≤ n := by omega
  simp only [h2, h3, decide_true, Bool.and_self]
set_option maxHeartbeats 4000000 in
set_option maxRecDepth 100000 in
theorem rOctal_neg (n : Int) (wd : Nat) (w : World) (hw : wd = 8 ∨ wd = 12) (hn : n < 0) :
    Calls Tryz.prog 34 #[.int .i64 n, .int .i64 (wd : Int)] w fun e w' => e = .returned (saidR none) ∧ Below w.heap.size w w' := by
  have H := heap_alloc_new w (.cells #[.string ⟨#[]⟩, .bool false] 64)
  rcases hw with rfl | rfl
  all_goals
    go_enter Tryz.func34, Tryz.ntmps34
    go_wp2_with fail
    refine bodyPost_ret (octal_res w.heap.size _ _ _ _ rfl H) rfl ?_
    exact ⟨rfl, below_alloc (Below.refl _ _) _⟩
def strLen : Value → Nat | .string s => s.size | _ => 0
theorem j_bound {n j : Nat} (hp : 0 < n / 8 ^ j) (hn : n ≤ 9223372036854775807) : j ≤ 20 := by
  rcases Nat.lt_or_ge 20 j with h | h
  · have h1 : 8 ^ 21 ≤ 8 ^ j := Nat.pow_le_pow_right (by decide) h
    have h2 : n < 8 ^ 21 := Nat.lt_of_le_of_lt hn (by decide)
    rw [Nat.div_eq_of_lt (Nat.lt_of_lt_of_le h2 h1)] at hp
    omega
  · exact h
set_option maxHeartbeats 4000000 in
set_option maxRecDepth 100000 in
theorem rOctal_pos (n : Nat) (wd : Nat) (w : World) (hw : wd = 8 ∨ wd = 12) (hn : n ≤ 9223372036854775807) :
    Calls Tryz.prog 34 #[.int .i64 (n : Int), .int .i64 (wd : Int)] w fun e w' => e = .returned (saidR (if octOk wd n = true then some (octL wd n) else none)) ∧ Below w.heap.size w w' := by
  have q1 : ¬ (n : Int) < 0 := by omega
  have H := Aside0.mk (heap_alloc_new w (.cells #[.string ⟨#[]⟩, .bool false] 64))
  have HB0 := Aside0.mk (below_alloc (Below.refl w.heap.size w) (.cells #[.string ⟨#[]⟩, .bool false] 64))
  have HN := Aside0.mk hn
  clear hn
  obtain ⟨v, hv⟩ : ∃ v, v = wd := ⟨_, rfl⟩
  have hv2 : v = 8 ∨ v = 12 := by omega
  have HGE := Aside0.mk (fun j (hj : wd ≤ j) (hp : 0 < n / 8 ^ (j - 1)) => octOk_ge (n := n) hj (by omega) hp)
  have HLT := Aside0.mk (octOk_lt (wd := wd) (n := n))
  rw [← hv] at HGE HLT ⊢
  obtain ⟨res, hres⟩ : ∃ r, r = saidR (if octOk v n = true then some (octL v n) else none) := ⟨_, rfl⟩
  rw [← hres]
  have HRES := Aside0.mk hres
  clear hres
  clear hw hv
  rcases hv2 with rfl | rfl
  all_goals
    go_enter Tryz.func34, Tryz.ntmps34
    go_wp2_with fail
  · go_loopw [0, 5] (fun nv sv wr => ∃ j m : Nat, j ≤ 22 ∧ m = n / 8 ^ j ∧ nv = .int .i64 (m : Int) ∧ sv = .string (mkS (octD j n)) ∧ Aside0 (j ≤ 7 ∨ 0 < n / 8 ^ (j - 1)) ∧ Aside0 (wr.heap[w.heap.size]? = some (.cells #[.string ⟨#[]⟩, .bool false] 64)) ∧ Aside0 (Below w.heap.size w wr)) (fun nv sv _ => (intOf nv).toNat + (7 - strLen sv))
    case atStart => exact ⟨0, n, by omega, by simp, rfl, rfl, ⟨.inl (by omega)⟩, H, HB0⟩
    case round =>
      obtain ⟨j, m, hj22, hm, rfl, rfl, HJ, HH, HB⟩ := hrel
      have hol : (octD j n).length = j := octD_length j n
      have hfr := octD_front n j
      rw [← hm] at hfr
      have hnext : m / 8 = n / 8 ^ (j + 1) := by rw [hm, Nat.div_div_eq_div_mul, ← Nat.pow_succ]
      have hjb := fun h : 0 < m => j_bound (n := n) (j := j) (hm ▸ h) HN.out
      have HJN : Aside0 (0 < m ∨ j < 7 → j + 1 ≤ 7 ∨ 0 < n / 8 ^ (j + 1 - 1)) := ⟨fun h => by
        rcases h with h | h
        · right; rw [Nat.add_sub_cancel, ← hm]; exact h
        · left; omega⟩
      have HM := Aside0.mk hm
      have HNX := Aside0.mk hnext
      have hm63 : m ≤ 9223372036854775807 := by rw [hm]; exact Nat.le_trans (Nat.div_le_self _ _) HN.out
      by_cases hc : 0 < m ∨ j < 7
      · have HJ2 := Aside0.mk (HJN.out hc)
        have HJ22 : Aside0 (j + 1 ≤ 22) := ⟨by rcases hc with h | h; have := hjb h; omega; omega⟩
        obtain ⟨d, hd⟩ : ∃ d, m % 8 = d := ⟨_, rfl⟩
        have hd8 : d < 8 := by omega
        rw [hd] at hfr
        obtain ⟨b, hb⟩ : ∃ b : UInt8, UInt8.ofNat (48 + d) = b := ⟨_, rfl⟩
        have hbn : (b.toNat : Int) = 48 + d := by rw [← hb, UInt8.toNat_ofNat']; omega
        rw [hb] at hfr
        obtain ⟨S, hS⟩ : ∃ S, octD j n = S := ⟨_, rfl⟩
        rw [hS] at hfr hol ⊢
        have HFR := Aside0.mk hfr
        have hcv := one_byte (wr.alloc (.cells #[.int .u8 (b.toNat : Int)] 5)) wr.heap.size b (heap_alloc_new _ _)
        rw [hbn] at hcv
        have hadd := fun W => str_add (P := Tryz.prog) (s := mkS [b]) (t := mkS S) (a := [b]) (b := S) rfl rfl rfl (by simp; omega) W
        have r1 : Int.tmod (m : Int) 8 = (d : Int) := by rw [Int.tmod_eq_emod_of_nonneg (by omega)]; omega
        have r2 : (m : Int) % 8 = (d : Int) := by omega
        have r3 : IntKind.i64.wrap (d : Int) = d := by rw [IntKind.wrap_i64]; omega
        have r4 : IntKind.i64.wrap (48 + (d : Int)) = 48 + d := by rw [IntKind.wrap_i64]; omega
        have r5 : IntKind.u8.wrap (48 + (d : Int)) = 48 + d := by
          have : d = 0 ∨ d = 1 ∨ d = 2 ∨ d = 3 ∨ d = 4 ∨ d = 5 ∨ d = 6 ∨ d = 7 := by omega
          rcases this with rfl | rfl | rfl | rfl | rfl | rfl | rfl | rfl <;> rfl
        obtain ⟨m', hm'⟩ : ∃ m', m / 8 = m' := ⟨_, rfl⟩
        have r6 : Int.tdiv (m : Int) 8 = (m' : Int) := by rw [Int.tdiv_eq_ediv_of_nonneg (by omega)]; omega
        have r7 : (m : Int) / 8 = (m' : Int) := by omega
        have r8 : IntKind.i64.wrap (m' : Int) = m' := by rw [IntKind.wrap_i64]; omega
        have HC := Aside0.mk hc
        have hM : (0 < m ∧ (0 : Int) < m) ∨ (m = 0 ∧ ¬ (0 : Int) < m ∧ (j : Int) < 7) := by omega
        have hms : m' < m ∨ (m = 0 ∧ m' = 0 ∧ j < 7) := by omega
        have HMS := Aside0.mk hms
        have HDD := Aside0.mk hd
        rw [hm'] at HNX
        clear hm hfr hS hd hb hnext hjb hc hM hms hm'
        have hM : (0 : Int) < m ∨ (m = 0 ∧ d = 0 ∧ m' = 0 ∧ (j : Int) < 7) := by have := HC.out; have := HDD.out; have := HMS.out; omega
        rcases hM with t1 | ⟨rfl, rfl, rfl, t2⟩
        · go_wp2_with fail
          exact ⟨⟨j + 1, m', HJ22.out, HNX.out, rfl, by rw [HFR.out], HJ2, ⟨blk_alloc HH.out _⟩, ⟨below_alloc HB.out _⟩⟩, by have := HMS.out; simp [intOf, strLen]; omega⟩
        · rw [show (48 + ((0 : Nat) : Int)) = 48 from rfl] at hcv
          clear r1 r2 r3 r4 r5 r6 r7 r8
          go_wp2_with fail
          exact ⟨⟨j + 1, 0, HJ22.out, HNX.out, rfl, by rw [HFR.out], HJ2, ⟨blk_alloc HH.out _⟩, ⟨below_alloc HB.out _⟩⟩, by have := HMS.out; simp [intOf, strLen]; omega⟩
      · have t1 : ¬ (0 : Int) < m := by omega
        have t2 : ¬ (j : Int) < 7 := by omega
        have hm0 : m = 0 := by omega
        have hjk : 7 ≤ j := by omega
        have c0 : wr.cell? ⟨w.heap.size, 0, none⟩ = some (.string ⟨#[]⟩) := blk_cell HH.out 0
        have c1 : wr.cell? ⟨w.heap.size, 1, none⟩ = some (.bool false) := blk_cell HH.out 1
        have f0 := blk_frozen HH.out 0
        have f1 := blk_frozen HH.out 1
        have lh := blk_lt HH.out
        by_cases hj8 : 8 ≤ j
        · have HR := Aside0.mk (show res = saidR none by rw [HRES.out, HGE.out j hj8 (by have := HJ.out; omega)]; rfl)
          obtain ⟨S, hS⟩ : ∃ S, octD j n = S := ⟨_, rfl⟩
          rw [hS] at hol ⊢
          have u1 : (8 : Int) ≤ (j : Int) := by omega
          obtain rfl : m = 0 := hm0
          clear hm hfr hnext hjb hc hS hjk hj8 hm63 t1
          clear hj22
          go_wp2_with fail
          have a1 := blk_hit (i := 0) (v := .string ⟨#[]⟩) HH.out
          have a2 := blk_hit (i := 1) (v := .bool false) a1
          simp only [List.setIfInBounds_toArray, List.set_cons_zero, List.set_cons_succ] at a2
          refine bodyPost_ret (octal_res w.heap.size _ _ _ _ rfl a2) rfl ?_
          exact ⟨by rw [HR.out]; rfl, Below.setCell (Below.setCell HB.out (Nat.le_refl _) _) (Nat.le_refl _) _⟩
        · obtain rfl : j = 7 := by omega
          obtain ⟨S, hS⟩ : ∃ S, octD 7 n = S := ⟨_, rfl⟩
          have HR := Aside0.mk (show res = saidR (some (S ++ [0])) by rw [HRES.out, HLT.out (by rw [← hm]; exact hm0), ← hS]; rfl)
          rw [hS] at hol ⊢
          have hadd := fun W => str_add (P := Tryz.prog) (s := mkS S) (t := ⟨#[0]⟩) (a := S) (b := [0]) rfl rfl rfl (by simp; omega) W
          obtain rfl : m = 0 := hm0
          clear hm hfr hnext hjb hc hS hjk hj8 hm63 t1
          go_wp2_with fail
          have a1 := blk_hit (i := 0) (v := .string (mkS (S ++ [0]))) HH.out
          have a2 := blk_hit (i := 1) (v := .bool true) a1
          simp only [List.setIfInBounds_toArray, List.set_cons_zero, List.set_cons_succ] at a2
          refine bodyPost_ret (octal_res w.heap.size _ _ _ _ rfl a2) rfl ?_
          exact ⟨by rw [HR.out]; rfl, Below.setCell (Below.setCell HB.out (Nat.le_refl _) _) (Nat.le_refl _) _⟩
  · go_loopw [0, 5] (fun nv sv wr => ∃ j m : Nat, j ≤ 22 ∧ m = n / 8 ^ j ∧ nv = .int .i64 (m : Int) ∧ sv = .string (mkS (octD j n)) ∧ Aside0 (j ≤ 11 ∨ 0 < n / 8 ^ (j - 1)) ∧ Aside0 (wr.heap[w.heap.size]? = some (.cells #[.string ⟨#[]⟩, .bool false] 64)) ∧ Aside0 (Below w.heap.size w wr)) (fun nv sv _ => (intOf nv).toNat + (11 - strLen sv))
    case atStart => exact ⟨0, n, by omega, by simp, rfl, rfl, ⟨.inl (by omega)⟩, H, HB0⟩
    case round =>
      obtain ⟨j, m, hj22, hm, rfl, rfl, HJ, HH, HB⟩ := hrel
      have hol : (octD j n).length = j := octD_length j n
      have hfr := octD_front n j
      rw [← hm] at hfr
      have hnext : m / 8 = n / 8 ^ (j + 1) := by rw [hm, Nat.div_div_eq_div_mul, ← Nat.pow_succ]
      have hjb := fun h : 0 < m => j_bound (n := n) (j := j) (hm ▸ h) HN.out
      have HJN : Aside0 (0 < m ∨ j < 11 → j + 1 ≤ 11 ∨ 0 < n / 8 ^ (j + 1 - 1)) := ⟨fun h => by
        rcases h with h | h
        · right; rw [Nat.add_sub_cancel, ← hm]; exact h
        · left; omega⟩
      have HM := Aside0.mk hm
      have HNX := Aside0.mk hnext
      have hm63 : m ≤ 9223372036854775807 := by rw [hm]; exact Nat.le_trans (Nat.div_le_self _ _) HN.out
      by_cases hc : 0 < m ∨ j < 11
      · have HJ2 := Aside0.mk (HJN.out hc)
        have HJ22 : Aside0 (j + 1 ≤ 22) := ⟨by rcases hc with h | h; have := hjb h; omega; omega⟩
        obtain ⟨d, hd⟩ : ∃ d, m % 8 = d := ⟨_, rfl⟩
        have hd8 : d < 8 := by omega
        rw [hd] at hfr
        obtain ⟨b, hb⟩ : ∃ b : UInt8, UInt8.ofNat (48 + d) = b := ⟨_, rfl⟩
        have hbn : (b.toNat : Int) = 48 + d := by rw [← hb, UInt8.toNat_ofNat']; omega
        rw [hb] at hfr
        obtain ⟨S, hS⟩ : ∃ S, octD j n = S := ⟨_, rfl⟩
        rw [hS] at hfr hol ⊢
        have HFR := Aside0.mk hfr
        have hcv := one_byte (wr.alloc (.cells #[.int .u8 (b.toNat : Int)] 5)) wr.heap.size b (heap_alloc_new _ _)
        rw [hbn] at hcv
        have hadd := fun W => str_add (P := Tryz.prog) (s := mkS [b]) (t := mkS S) (a := [b]) (b := S) rfl rfl rfl (by simp; omega) W
        have r1 : Int.tmod (m : Int) 8 = (d : Int) := by rw [Int.tmod_eq_emod_of_nonneg (by omega)]; omega
        have r2 : (m : Int) % 8 = (d : Int) := by omega
        have r3 : IntKind.i64.wrap (d : Int) = d := by rw [IntKind.wrap_i64]; omega
        have r4 : IntKind.i64.wrap (48 + (d : Int)) = 48 + d := by rw [IntKind.wrap_i64]; omega
        have r5 : IntKind.u8.wrap (48 + (d : Int)) = 48 + d := by
          have : d = 0 ∨ d = 1 ∨ d = 2 ∨ d = 3 ∨ d = 4 ∨ d = 5 ∨ d = 6 ∨ d = 7 := by omega
          rcases this with rfl | rfl | rfl | rfl | rfl | rfl | rfl | rfl <;> rfl
        obtain ⟨m', hm'⟩ : ∃ m', m / 8 = m' := ⟨_, rfl⟩
        have r6 : Int.tdiv (m : Int) 8 = (m' : Int) := by rw [Int.tdiv_eq_ediv_of_nonneg (by omega)]; omega
        have r7 : (m : Int) / 8 = (m' : Int) := by omega
        have r8 : IntKind.i64.wrap (m' : Int) = m' := by rw [IntKind.wrap_i64]; omega
        have HC := Aside0.mk hc
        have hM : (0 < m ∧ (0 : Int) < m) ∨ (m = 0 ∧ ¬ (0 : Int) < m ∧ (j : Int) < 11) := by omega
        have hms : m' < m ∨ (m = 0 ∧ m' = 0 ∧ j < 11) := by omega
        have HMS := Aside0.mk hms
        have HDD := Aside0.mk hd
        rw [hm'] at HNX
        clear hm hfr hS hd hb hnext hjb hc hM hms hm'
        have hM : (0 : Int) < m ∨ (m = 0 ∧ d = 0 ∧ m' = 0 ∧ (j : Int) < 11) := by have := HC.out; have := HDD.out; have := HMS.out; omega
        rcases hM with t1 | ⟨rfl, rfl, rfl, t2⟩
        · go_wp2_with fail
          exact ⟨⟨j + 1, m', HJ22.out, HNX.out, rfl, by rw [HFR.out], HJ2, ⟨blk_alloc HH.out _⟩, ⟨below_alloc HB.out _⟩⟩, by have := HMS.out; simp [intOf, strLen]; omega⟩
        · rw [show (48 + ((0 : Nat) : Int)) = 48 from rfl] at hcv
          clear r1 r2 r3 r4 r5 r6 r7 r8
          go_wp2_with fail
          exact ⟨⟨j + 1, 0, HJ22.out, HNX.out, rfl, by rw [HFR.out], HJ2, ⟨blk_alloc HH.out _⟩, ⟨below_alloc HB.out _⟩⟩, by have := HMS.out; simp [intOf, strLen]; omega⟩
      · have t1 : ¬ (0 : Int) < m := by omega
        have t2 : ¬ (j : Int) < 11 := by omega
        have hm0 : m = 0 := by omega
        have hjk : 11 ≤ j := by omega
        have c0 : wr.cell? ⟨w.heap.size, 0, none⟩ = some (.string ⟨#[]⟩) := blk_cell HH.out 0
        have c1 : wr.cell? ⟨w.heap.size, 1, none⟩ = some (.bool false) := blk_cell HH.out 1
        have f0 := blk_frozen HH.out 0
        have f1 := blk_frozen HH.out 1
        have lh := blk_lt HH.out
        by_cases hj8 : 12 ≤ j
        · have HR := Aside0.mk (show res = saidR none by rw [HRES.out, HGE.out j hj8 (by have := HJ.out; omega)]; rfl)
          obtain ⟨S, hS⟩ : ∃ S, octD j n = S := ⟨_, rfl⟩
          rw [hS] at hol ⊢
          have u1 : (12 : Int) ≤ (j : Int) := by omega
          obtain rfl : m = 0 := hm0
          clear hm hfr hnext hjb hc hS hjk hj8 hm63 t1
          clear hj22
          go_wp2_with fail
          have a1 := blk_hit (i := 0) (v := .string ⟨#[]⟩) HH.out
          have a2 := blk_hit (i := 1) (v := .bool false) a1
          simp only [List.setIfInBounds_toArray, List.set_cons_zero, List.set_cons_succ] at a2
          refine bodyPost_ret (octal_res w.heap.size _ _ _ _ rfl a2) rfl ?_
          exact ⟨by rw [HR.out]; rfl, Below.setCell (Below.setCell HB.out (Nat.le_refl _) _) (Nat.le_refl _) _⟩
        · obtain rfl : j = 11 := by omega
          obtain ⟨S, hS⟩ : ∃ S, octD 11 n = S := ⟨_, rfl⟩
          have HR := Aside0.mk (show res = saidR (some (S ++ [0])) by rw [HRES.out, HLT.out (by rw [← hm]; exact hm0), ← hS]; rfl)
          rw [hS] at hol ⊢
          have hadd := fun W => str_add (P := Tryz.prog) (s := mkS S) (t := ⟨#[0]⟩) (a := S) (b := [0]) rfl rfl rfl (by simp; omega) W
          obtain rfl : m = 0 := hm0
          clear hm hfr hnext hjb hc hS hjk hj8 hm63 t1
          go_wp2_with fail
          have a1 := blk_hit (i := 0) (v := .string (mkS (S ++ [0]))) HH.out
          have a2 := blk_hit (i := 1) (v := .bool true) a1
          simp only [List.setIfInBounds_toArray, List.set_cons_zero, List.set_cons_succ] at a2
          refine bodyPost_ret (octal_res w.heap.size _ _ _ _ rfl a2) rfl ?_
          exact ⟨by rw [HR.out]; rfl, Below.setCell (Below.setCell HB.out (Nat.le_refl _) _) (Nat.le_refl _) _⟩
end Go.Proofs.YtpmiddhdgidimaaGreatDoor
namespace Go.Proofs.YtpmiddhdgidimaaGreatDoor
open Go.RowKit Go.Proofs.YtpmiddhdgidimaaGreatDoorW.PrintWords

theorem base_res (p : Nat) (x0 x1 : Value) (tmps : Array Value) (W : World) (t8 : tmps.getD 4 undef = .pointer (some ⟨p, 0, none⟩)) (H : W.heap[p]? = some (.cells #[x0, x1] 64)) :
    (results Tryz.f51 tmps).run Tryz.prog W = .ok (.agg #[x0, x1]) W := by
  have c0 : W.cell? ⟨p, 0, none⟩ = some x0 := blk_cell H 0
  have c1 : W.cell? ⟨p, 1, none⟩ = some x1 := blk_cell H 1
  clear H
  replace t8 : tmps[4]?.getD undef = .pointer (some ⟨p, 0, none⟩) := by simpa using t8
  simp only [results, Tryz.results51]
  simp [Sem.run_bind, Result.andThen, t8, go_sem, c0, c1]
set_option maxHeartbeats 4000000 in
set_option maxRecDepth 100000 in
theorem rBase_far (n : Int) (w : World) (hn : 72057594037927936 ≤ n ∨ n < -72057594037927936) :
    Calls Tryz.prog 51 #[.int .i64 n, .int .i64 8] w fun e w' => e = .returned (saidR none) ∧ Below w.heap.size w w' := by
  have H := heap_alloc_new w (.cells #[.string ⟨#[]⟩, .bool false] 64)
  rcases hn with h | h
  all_goals
    go_enter Tryz.func51, Tryz.ntmps51
    go_wp2_with fail
    refine bodyPost_ret (base_res w.heap.size _ _ _ _ rfl H) rfl ?_
    exact ⟨rfl, below_alloc (Below.refl _ _) _⟩
/-- The bytes while they are laid. -/
def baseTo (wd : Nat) (n : Int) (i : Nat) : List UInt8 := (baseL wd n).take i ++ List.replicate (wd - i) 0
theorem baseTo_length (wd : Nat) (n : Int) (i : Nat) (hw : 0 < wd) (hi : i ≤ wd) : (baseTo wd n i).length = wd := by
  unfold baseTo; rw [List.length_append, List.length_take, baseL_length _ _ hw, List.length_replicate]; omega
theorem baseTo_all (wd : Nat) (n : Int) (hw : 0 < wd) : baseTo wd n wd = baseL wd n := by
  unfold baseTo; rw [Nat.sub_self, List.replicate_zero, List.append_nil, List.take_of_length_le (by rw [baseL_length _ _ hw]; omega)]
theorem leD_at : ∀ (k : Nat) (n : Int) (j : Nat), j < k → (leD k n)[j]? = some (UInt8.ofNat (n / 256 ^ j % 256).toNat)
  | 0, n, j, h => by omega
  | k + 1, n, 0, h => by simp [leD]
  | k + 1, n, j + 1, h => by
    rw [leD, List.getElem?_cons_succ, leD_at k (n / 256) j (by omega)]
    congr 3
    rw [Int.ediv_ediv_of_nonneg (by decide), Int.pow_succ, Int.mul_comm (256 ^ j) 256]
theorem baseL_at (wd : Nat) (n : Int) (i : Nat) (h0 : 0 < i) (hi : i < wd) : (baseL wd n)[i]? = some (UInt8.ofNat (n / 256 ^ (wd - 1 - i) % 256).toNat) := by
  unfold baseL
  obtain ⟨i, rfl⟩ : ∃ k, i = k + 1 := ⟨i - 1, by omega⟩
  rw [List.getElem?_cons_succ, List.getElem?_reverse (by rw [leD_length]; omega), leD_length, leD_at _ _ _ (by omega), show wd - 1 - (i + 1) = wd - 1 - 1 - i by omega]
theorem baseTo_step (wd : Nat) (n : Int) (i : Nat) (hi : i < wd) (c : UInt8) (hc : (baseL wd n)[i]? = some c) : (baseTo wd n i).set i c = baseTo wd n (i + 1) := by
  have hl : (baseL wd n).length = wd := baseL_length _ _ (by omega)
  unfold baseTo
  rw [List.set_append_right _ _ (by rw [List.length_take]; omega), List.length_take, hl, Nat.min_eq_left (by omega), Nat.sub_self]
  obtain ⟨r, hr⟩ : ∃ r, wd - i = r + 1 := ⟨wd - i - 1, by omega⟩
  rw [hr, List.replicate_succ, List.set_cons_zero, show wd - (i + 1) = r by omega, List.take_add_one, hc]
  simp
theorem zeros_bytes (n : Nat) (hn : n ≤ 1000000) (w : World) : ∃ W, (Instr.makeSlice 40 (.int .i64 (n : Int)) (.int .i64 (n : Int))).run Tryz.prog w = .ok (.slice (some ⟨w.heap.size, 0, none⟩) n n) W ∧ Below w.heap.size w W ∧ W.heap.size = w.heap.size + 1 ∧ Bytes W w.heap.size (List.replicate n 0) := by
  refine ⟨_, run_make_row' (P := Tryz.prog) 40 5 (.int .u8 0) 1 Tryz.underlying40 info_byte rfl .i64 .i64 n (by omega) (by omega) w, (Below.refl _ _).alloc (Nat.le_refl _) _, by simp, ?_⟩
  refine ⟨fun j hj => ?_, fun j hj => ?_, by simp⟩
  · rw [World.cell?_alloc_at _ _ _ _ (by simp)]
    rw [List.length_replicate] at hj
    have h2 : (madeCells #[Value.int .u8 0] n).toList[j]? = some (.int .u8 0) := by rw [toList_madeCells_one, List.getElem?_replicate, if_pos hj]
    rw [← Array.getElem?_toList, h2]
    simp [List.getD_eq_getElem?_getD, hj]
  · exact blk_frozen (heap_alloc_new w (.cells (madeCells #[.int .u8 0] n) 5)) j
theorem base_first (wd : Nat) (n : Int) (hw : 0 < wd) : (List.replicate wd (0 : UInt8)).set 0 (signB n) = baseTo wd n 1 := by
  obtain ⟨k, rfl⟩ : ∃ k, wd = k + 1 := ⟨wd - 1, by omega⟩
  unfold baseTo baseL
  simp [List.replicate_succ]
theorem base_skip (wd : Nat) (n : Int) (i : Nat) (hi : i < wd) : (baseTo wd n i).set i 0 = baseTo wd n i := by
  have hl : (baseL wd n).length = wd := baseL_length _ _ (by omega)
  unfold baseTo
  rw [List.set_append_right _ _ (by rw [List.length_take]; omega), List.length_take, hl, Nat.min_eq_left (by omega), Nat.sub_self]
  obtain ⟨r, hr⟩ : ∃ r, wd - i = r + 1 := ⟨wd - i - 1, by omega⟩
  rw [hr, List.replicate_succ, List.set_cons_zero]
theorem u8_of (x : Int) : ((UInt8.ofNat (x % 256).toNat).toNat : Int) = x % 256 := by
  rw [UInt8.toNat_ofNat']
  omega
set_option maxHeartbeats 4000000 in
set_option maxRecDepth 100000 in
theorem rBase_near (n : Int) (wd : Nat) (w : World) (hw : wd = 8 ∨ wd = 12) (hn0 : -9223372036854775808 ≤ n) (hn : n ≤ 9223372036854775807) (hb : baseOk wd n = true) :
    Calls Tryz.prog 51 #[.int .i64 n, .int .i64 (wd : Int)] w fun e w' => e = .returned (saidR (some (baseL wd n))) ∧ Below w.heap.size w w' := by
  have hq : wd = 12 ∨ (wd = 8 ∧ ¬ (72057594037927936 ≤ n) ∧ ¬ (n < -72057594037927936)) := by
    unfold baseOk at hb
    rcases hw with rfl | rfl
    · right; simp at hb; omega
    · left; rfl
  obtain ⟨res, hres⟩ : ∃ r, r = saidR (some (baseL wd n)) := ⟨_, rfl⟩
  rw [← hres]
  have HRES := Aside0.mk hres
  have HQ := hq
  clear hres hb
  have H := Aside0.mk (heap_alloc_new w (.cells #[.string ⟨#[]⟩, .bool false] 64))
  have HB0 := Aside0.mk (below_alloc (Below.refl w.heap.size w) (.cells #[.string ⟨#[]⟩, .bool false] 64))
  obtain ⟨W1, hm, hb1, hs1, hB1⟩ := zeros_bytes wd (by omega) (w.alloc (.cells #[.string ⟨#[]⟩, .bool false] 64))
  rw [show (w.alloc (.cells #[.string ⟨#[]⟩, .bool false] 64)).heap.size = w.heap.size + 1 by simp] at hm hB1 hs1
  have H1 := Aside0.mk ((hb1.block _ (blk_lt H.out)).trans H.out)
  have HB1 := Aside0.mk (below_next HB0.out hb1)
  have hlw : 0 < (List.replicate wd (0 : UInt8)).length := by rw [List.length_replicate]; omega
  have c0 := hB1.cell 0 hlw
  have f0 := hB1.free 0 hlw
  have e0 : (List.replicate wd (0 : UInt8)).getD 0 0 = 0 := by
    rcases hw with rfl | rfl <;> rfl
  rw [e0] at c0
  have HS := Aside0.mk (hB1.set 0 hlw (signB n))
  rw [base_first wd n (by omega)] at HS
  have HY := Aside0.mk hB1
  have ls : w.heap.size + 1 < W1.heap.size := by omega
  clear hb1 hB1 H HB0 hs1 e0
  have hsg : (n < 0 ∧ (signB n).toNat = 255) ∨ (¬ n < 0 ∧ (signB n).toNat = 128) := by
    unfold signB
    by_cases h : n < 0
    · left; rw [if_pos h]; exact ⟨h, rfl⟩
    · right; rw [if_neg h]; exact ⟨h, rfl⟩
  rcases hq with rfl | ⟨rfl, h1, h2⟩
  · rw [show ((12 : Nat) : Int) = 12 from rfl] at hm
    go_enter Tryz.func51, Tryz.ntmps51
    rcases hsg with ⟨hs, hv⟩ | ⟨hs, hv⟩
    · have HSG := Aside0.mk hs
      rw [hv] at HS
      have hs2 := (HY.out.set 0 hlw 128).set 0 (by rw [List.length_set]; exact hlw) (signB n)
      rw [List.set_set, base_first 12 n (by decide), hv] at hs2
      have HS2 := Aside0.mk hs2
      clear hs2
      have B0 := Aside0.mk (Below.setCell HB1.out (p := ⟨w.heap.size + 1, 0, none⟩) (Nat.le_succ _) (.int .u8 255))
      have H0 := Aside0.mk (blk_miss (g' := w.heap.size + 1) (i := 0) (v := .int .u8 255) H1.out (Nat.succ_ne_self _).symm)
      go_wp2_with fail
      go_loopw [6] (fun v wr => ∃ i : Nat, 1 ≤ i ∧ i ≤ 12 ∧ v = .int .i64 (i : Int) ∧ Aside0 (Bytes wr (w.heap.size + 1) (baseTo 12 n i)) ∧ Aside0 (wr.heap[w.heap.size]? = some (.cells #[.string ⟨#[]⟩, .bool false] 64)) ∧ Aside0 (Below w.heap.size w wr)) (fun v _ => 12 - (intOf v).toNat)
      case atStart => exact ⟨1, by omega, by omega, rfl, by first | exact HS | exact HS2, ⟨by first | exact blk_miss (blk_miss H1.out (Nat.succ_ne_self _).symm) (Nat.succ_ne_self _).symm | exact blk_miss H1.out (Nat.succ_ne_self _).symm⟩, ⟨by first | exact Below.setCell HB1.out (Nat.le_succ _) _ | exact Below.setCell (Below.setCell HB1.out (Nat.le_succ _) _) (Nat.le_succ _) _⟩⟩
      case round =>
        obtain ⟨i, hi1, hi2, rfl, HY, HH, HB⟩ := hrel
        by_cases hlt : i < 12
        · have hli : i < (baseTo 12 n i).length := by rw [baseTo_length 12 n i (by decide) hi2]; exact hlt
          have c0 := HY.out.cell i hli
          have f0 := HY.out.free i hli
          have l0 := HY.out.lt
          have hbi := baseL_at 12 n i hi1 hlt
          have HST := Aside0.mk (fun (c : UInt8) (hc : (baseL 12 n)[i]? = some c) => show Bytes (wr.setCell ⟨w.heap.size + 1, i, none⟩ (.int .u8 c.toNat)) (w.heap.size + 1) (baseTo 12 n (i + 1)) from by rw [← baseTo_step 12 n i hlt c hc]; exact HY.out.set i hli c)
          have HSK := Aside0.mk (fun (hc : (baseL 12 n)[i]? = some 0) => show Bytes wr (w.heap.size + 1) (baseTo 12 n (i + 1)) from by
            rw [← baseTo_step 12 n i hlt 0 hc, show (baseTo 12 n i).set i 0 = baseTo 12 n i from base_skip 12 n i hlt]; exact HY.out)
          have HM := Aside0.mk (fun (c : Value) => blk_miss (g' := w.heap.size + 1) (i := i) (v := c) HH.out (Nat.succ_ne_self _).symm)
          have HBI := Aside0.mk hbi
          clear hbi HY
          have hcases : i = 1 ∨ i = 2 ∨ i = 3 ∨ i = 4 ∨ i = 5 ∨ i = 6 ∨ i = 7 ∨ i = 8 ∨ i = 9 ∨ i = 10 ∨ i = 11 := by omega
          rcases hcases with rfl | rfl | rfl | rfl | rfl | rfl | rfl | rfl | rfl | rfl | rfl
          · have e : n / 256 ^ (12 - 1 - 1) % 256 = 255 := by have := HSG.out; simp only [Nat.reduceSub, Int.reducePow]; omega
            go_wp2_with fail
            exact ⟨⟨1 + 1, by omega, by omega, rfl, ⟨by have h := HST.out _ HBI.out; rw [u8_of, e] at h; simpa using h⟩, ⟨HM.out _⟩, ⟨HB.out.setCell (Nat.le_succ _) _⟩⟩, by simp [intOf]⟩
          · have e : n / 256 ^ (12 - 1 - 2) % 256 = 255 := by have := HSG.out; simp only [Nat.reduceSub, Int.reducePow]; omega
            go_wp2_with fail
            exact ⟨⟨2 + 1, by omega, by omega, rfl, ⟨by have h := HST.out _ HBI.out; rw [u8_of, e] at h; simpa using h⟩, ⟨HM.out _⟩, ⟨HB.out.setCell (Nat.le_succ _) _⟩⟩, by simp [intOf]⟩
          · have e : n / 256 ^ (12 - 1 - 3) % 256 = 255 := by have := HSG.out; simp only [Nat.reduceSub, Int.reducePow]; omega
            go_wp2_with fail
            exact ⟨⟨3 + 1, by omega, by omega, rfl, ⟨by have h := HST.out _ HBI.out; rw [u8_of, e] at h; simpa using h⟩, ⟨HM.out _⟩, ⟨HB.out.setCell (Nat.le_succ _) _⟩⟩, by simp [intOf]⟩
          · go_wp2_with fail
            exact ⟨⟨4 + 1, by omega, by omega, rfl, ⟨by have h := HST.out _ HBI.out; rw [u8_of] at h; simpa using h⟩, ⟨HM.out _⟩, ⟨HB.out.setCell (Nat.le_succ _) _⟩⟩, by simp [intOf]⟩
          · go_wp2_with fail
            exact ⟨⟨5 + 1, by omega, by omega, rfl, ⟨by have h := HST.out _ HBI.out; rw [u8_of] at h; simpa using h⟩, ⟨HM.out _⟩, ⟨HB.out.setCell (Nat.le_succ _) _⟩⟩, by simp [intOf]⟩
          · go_wp2_with fail
            exact ⟨⟨6 + 1, by omega, by omega, rfl, ⟨by have h := HST.out _ HBI.out; rw [u8_of] at h; simpa using h⟩, ⟨HM.out _⟩, ⟨HB.out.setCell (Nat.le_succ _) _⟩⟩, by simp [intOf]⟩
          · go_wp2_with fail
            exact ⟨⟨7 + 1, by omega, by omega, rfl, ⟨by have h := HST.out _ HBI.out; rw [u8_of] at h; simpa using h⟩, ⟨HM.out _⟩, ⟨HB.out.setCell (Nat.le_succ _) _⟩⟩, by simp [intOf]⟩
          · go_wp2_with fail
            exact ⟨⟨8 + 1, by omega, by omega, rfl, ⟨by have h := HST.out _ HBI.out; rw [u8_of] at h; simpa using h⟩, ⟨HM.out _⟩, ⟨HB.out.setCell (Nat.le_succ _) _⟩⟩, by simp [intOf]⟩
          · go_wp2_with fail
            exact ⟨⟨9 + 1, by omega, by omega, rfl, ⟨by have h := HST.out _ HBI.out; rw [u8_of] at h; simpa using h⟩, ⟨HM.out _⟩, ⟨HB.out.setCell (Nat.le_succ _) _⟩⟩, by simp [intOf]⟩
          · go_wp2_with fail
            exact ⟨⟨10 + 1, by omega, by omega, rfl, ⟨by have h := HST.out _ HBI.out; rw [u8_of] at h; simpa using h⟩, ⟨HM.out _⟩, ⟨HB.out.setCell (Nat.le_succ _) _⟩⟩, by simp [intOf]⟩
          · go_wp2_with fail
            exact ⟨⟨11 + 1, by omega, by omega, rfl, ⟨by have h := HST.out _ HBI.out; rw [u8_of] at h; simpa using h⟩, ⟨HM.out _⟩, ⟨HB.out.setCell (Nat.le_succ _) _⟩⟩, by simp [intOf]⟩
        · obtain rfl : i = 12 := by omega
          have HY2 := HY.out
          rw [baseTo_all 12 n (by decide)] at HY2
          obtain ⟨L, hL⟩ : ∃ L, baseL 12 n = L := ⟨_, rfl⟩
          have hLl : L.length = 12 := by rw [← hL]; exact baseL_length _ _ (by decide)
          rw [hL] at HY2
          have HR := Aside0.mk (show res = saidR (some L) by rw [HRES.out, hL])
          have hbk := HY2.back (P := Tryz.prog) 40 9 5 12 12 hLl.symm Tryz.underlying40 Tryz.underlying5 Tryz.underlying9
          have d0 : wr.cell? ⟨w.heap.size, 0, none⟩ = some (.string ⟨#[]⟩) := blk_cell HH.out 0
          have d1 : wr.cell? ⟨w.heap.size, 1, none⟩ = some (.bool false) := blk_cell HH.out 1
          have k0 := blk_frozen HH.out 0
          have k1 := blk_frozen HH.out 1
          have lh := blk_lt HH.out
          clear HY2 hL hLl
          go_wp2_with fail
          have a1 := blk_hit (i := 0) (v := .string (mkS L)) HH.out
          have a2 := blk_hit (i := 1) (v := .bool true) a1
          simp only [List.setIfInBounds_toArray, List.set_cons_zero, List.set_cons_succ] at a2
          refine bodyPost_ret (base_res w.heap.size _ _ _ _ rfl a2) rfl ?_
          exact ⟨by rw [HR.out]; rfl, Below.setCell (Below.setCell HB.out (Nat.le_refl _) _) (Nat.le_refl _) _⟩
    · have HSG := Aside0.mk hs
      rw [hv] at HS
      go_wp2_with fail
      go_loopw [6] (fun v wr => ∃ i : Nat, 1 ≤ i ∧ i ≤ 12 ∧ v = .int .i64 (i : Int) ∧ Aside0 (Bytes wr (w.heap.size + 1) (baseTo 12 n i)) ∧ Aside0 (wr.heap[w.heap.size]? = some (.cells #[.string ⟨#[]⟩, .bool false] 64)) ∧ Aside0 (Below w.heap.size w wr)) (fun v _ => 12 - (intOf v).toNat)
      case atStart => exact ⟨1, by omega, by omega, rfl, by first | exact HS | exact HS2, ⟨by first | exact blk_miss (blk_miss H1.out (Nat.succ_ne_self _).symm) (Nat.succ_ne_self _).symm | exact blk_miss H1.out (Nat.succ_ne_self _).symm⟩, ⟨by first | exact Below.setCell HB1.out (Nat.le_succ _) _ | exact Below.setCell (Below.setCell HB1.out (Nat.le_succ _) _) (Nat.le_succ _) _⟩⟩
      case round =>
        obtain ⟨i, hi1, hi2, rfl, HY, HH, HB⟩ := hrel
        by_cases hlt : i < 12
        · have hli : i < (baseTo 12 n i).length := by rw [baseTo_length 12 n i (by decide) hi2]; exact hlt
          have c0 := HY.out.cell i hli
          have f0 := HY.out.free i hli
          have l0 := HY.out.lt
          have hbi := baseL_at 12 n i hi1 hlt
          have HST := Aside0.mk (fun (c : UInt8) (hc : (baseL 12 n)[i]? = some c) => show Bytes (wr.setCell ⟨w.heap.size + 1, i, none⟩ (.int .u8 c.toNat)) (w.heap.size + 1) (baseTo 12 n (i + 1)) from by rw [← baseTo_step 12 n i hlt c hc]; exact HY.out.set i hli c)
          have HSK := Aside0.mk (fun (hc : (baseL 12 n)[i]? = some 0) => show Bytes wr (w.heap.size + 1) (baseTo 12 n (i + 1)) from by
            rw [← baseTo_step 12 n i hlt 0 hc, show (baseTo 12 n i).set i 0 = baseTo 12 n i from base_skip 12 n i hlt]; exact HY.out)
          have HM := Aside0.mk (fun (c : Value) => blk_miss (g' := w.heap.size + 1) (i := i) (v := c) HH.out (Nat.succ_ne_self _).symm)
          have HBI := Aside0.mk hbi
          clear hbi HY
          have hcases : i = 1 ∨ i = 2 ∨ i = 3 ∨ i = 4 ∨ i = 5 ∨ i = 6 ∨ i = 7 ∨ i = 8 ∨ i = 9 ∨ i = 10 ∨ i = 11 := by omega
          rcases hcases with rfl | rfl | rfl | rfl | rfl | rfl | rfl | rfl | rfl | rfl | rfl
          · have e : n / 256 ^ (12 - 1 - 1) % 256 = 0 := by have := HSG.out; simp only [Nat.reduceSub, Int.reducePow]; omega
            go_wp2_with fail
            exact ⟨⟨1 + 1, by omega, by omega, rfl, ⟨by have h := HSK.out (by rw [HBI.out, e]; rfl); simpa using h⟩, HH, HB⟩, by simp [intOf]⟩
          · have e : n / 256 ^ (12 - 1 - 2) % 256 = 0 := by have := HSG.out; simp only [Nat.reduceSub, Int.reducePow]; omega
            go_wp2_with fail
            exact ⟨⟨2 + 1, by omega, by omega, rfl, ⟨by have h := HSK.out (by rw [HBI.out, e]; rfl); simpa using h⟩, HH, HB⟩, by simp [intOf]⟩
          · have e : n / 256 ^ (12 - 1 - 3) % 256 = 0 := by have := HSG.out; simp only [Nat.reduceSub, Int.reducePow]; omega
            go_wp2_with fail
            exact ⟨⟨3 + 1, by omega, by omega, rfl, ⟨by have h := HSK.out (by rw [HBI.out, e]; rfl); simpa using h⟩, HH, HB⟩, by simp [intOf]⟩
          · go_wp2_with fail
            exact ⟨⟨4 + 1, by omega, by omega, rfl, ⟨by have h := HST.out _ HBI.out; rw [u8_of] at h; simp only [Nat.reduceSub, Int.reducePow] at h; rw [show n / 72057594037927936 % 256 = n / 72057594037927936 by have := HSG.out; omega] at h; simpa using h⟩, ⟨HM.out _⟩, ⟨HB.out.setCell (Nat.le_succ _) _⟩⟩, by simp [intOf]⟩
          · go_wp2_with fail
            exact ⟨⟨5 + 1, by omega, by omega, rfl, ⟨by have h := HST.out _ HBI.out; rw [u8_of] at h; simpa using h⟩, ⟨HM.out _⟩, ⟨HB.out.setCell (Nat.le_succ _) _⟩⟩, by simp [intOf]⟩
          · go_wp2_with fail
            exact ⟨⟨6 + 1, by omega, by omega, rfl, ⟨by have h := HST.out _ HBI.out; rw [u8_of] at h; simpa using h⟩, ⟨HM.out _⟩, ⟨HB.out.setCell (Nat.le_succ _) _⟩⟩, by simp [intOf]⟩
          · go_wp2_with fail
            exact ⟨⟨7 + 1, by omega, by omega, rfl, ⟨by have h := HST.out _ HBI.out; rw [u8_of] at h; simpa using h⟩, ⟨HM.out _⟩, ⟨HB.out.setCell (Nat.le_succ _) _⟩⟩, by simp [intOf]⟩
          · go_wp2_with fail
            exact ⟨⟨8 + 1, by omega, by omega, rfl, ⟨by have h := HST.out _ HBI.out; rw [u8_of] at h; simpa using h⟩, ⟨HM.out _⟩, ⟨HB.out.setCell (Nat.le_succ _) _⟩⟩, by simp [intOf]⟩
          · go_wp2_with fail
            exact ⟨⟨9 + 1, by omega, by omega, rfl, ⟨by have h := HST.out _ HBI.out; rw [u8_of] at h; simpa using h⟩, ⟨HM.out _⟩, ⟨HB.out.setCell (Nat.le_succ _) _⟩⟩, by simp [intOf]⟩
          · go_wp2_with fail
            exact ⟨⟨10 + 1, by omega, by omega, rfl, ⟨by have h := HST.out _ HBI.out; rw [u8_of] at h; simpa using h⟩, ⟨HM.out _⟩, ⟨HB.out.setCell (Nat.le_succ _) _⟩⟩, by simp [intOf]⟩
          · go_wp2_with fail
            exact ⟨⟨11 + 1, by omega, by omega, rfl, ⟨by have h := HST.out _ HBI.out; rw [u8_of] at h; simpa using h⟩, ⟨HM.out _⟩, ⟨HB.out.setCell (Nat.le_succ _) _⟩⟩, by simp [intOf]⟩
        · obtain rfl : i = 12 := by omega
          have HY2 := HY.out
          rw [baseTo_all 12 n (by decide)] at HY2
          obtain ⟨L, hL⟩ : ∃ L, baseL 12 n = L := ⟨_, rfl⟩
          have hLl : L.length = 12 := by rw [← hL]; exact baseL_length _ _ (by decide)
          rw [hL] at HY2
          have HR := Aside0.mk (show res = saidR (some L) by rw [HRES.out, hL])
          have hbk := HY2.back (P := Tryz.prog) 40 9 5 12 12 hLl.symm Tryz.underlying40 Tryz.underlying5 Tryz.underlying9
          have d0 : wr.cell? ⟨w.heap.size, 0, none⟩ = some (.string ⟨#[]⟩) := blk_cell HH.out 0
          have d1 : wr.cell? ⟨w.heap.size, 1, none⟩ = some (.bool false) := blk_cell HH.out 1
          have k0 := blk_frozen HH.out 0
          have k1 := blk_frozen HH.out 1
          have lh := blk_lt HH.out
          clear HY2 hL hLl
          go_wp2_with fail
          have a1 := blk_hit (i := 0) (v := .string (mkS L)) HH.out
          have a2 := blk_hit (i := 1) (v := .bool true) a1
          simp only [List.setIfInBounds_toArray, List.set_cons_zero, List.set_cons_succ] at a2
          refine bodyPost_ret (base_res w.heap.size _ _ _ _ rfl a2) rfl ?_
          exact ⟨by rw [HR.out]; rfl, Below.setCell (Below.setCell HB.out (Nat.le_refl _) _) (Nat.le_refl _) _⟩
  · rw [show ((8 : Nat) : Int) = 8 from rfl] at hm
    go_enter Tryz.func51, Tryz.ntmps51
    rcases hsg with ⟨hs, hv⟩ | ⟨hs, hv⟩
    · have HSG := Aside0.mk hs
      rw [hv] at HS
      have hs2 := (HY.out.set 0 hlw 128).set 0 (by rw [List.length_set]; exact hlw) (signB n)
      rw [List.set_set, base_first 8 n (by decide), hv] at hs2
      have HS2 := Aside0.mk hs2
      clear hs2
      have B0 := Aside0.mk (Below.setCell HB1.out (p := ⟨w.heap.size + 1, 0, none⟩) (Nat.le_succ _) (.int .u8 255))
      have H0 := Aside0.mk (blk_miss (g' := w.heap.size + 1) (i := 0) (v := .int .u8 255) H1.out (Nat.succ_ne_self _).symm)
      go_wp2_with fail
      go_loopw [6] (fun v wr => ∃ i : Nat, 1 ≤ i ∧ i ≤ 8 ∧ v = .int .i64 (i : Int) ∧ Aside0 (Bytes wr (w.heap.size + 1) (baseTo 8 n i)) ∧ Aside0 (wr.heap[w.heap.size]? = some (.cells #[.string ⟨#[]⟩, .bool false] 64)) ∧ Aside0 (Below w.heap.size w wr)) (fun v _ => 8 - (intOf v).toNat)
      case atStart => exact ⟨1, by omega, by omega, rfl, by first | exact HS | exact HS2, ⟨by first | exact blk_miss (blk_miss H1.out (Nat.succ_ne_self _).symm) (Nat.succ_ne_self _).symm | exact blk_miss H1.out (Nat.succ_ne_self _).symm⟩, ⟨by first | exact Below.setCell HB1.out (Nat.le_succ _) _ | exact Below.setCell (Below.setCell HB1.out (Nat.le_succ _) _) (Nat.le_succ _) _⟩⟩
      case round =>
        obtain ⟨i, hi1, hi2, rfl, HY, HH, HB⟩ := hrel
        by_cases hlt : i < 8
        · have hli : i < (baseTo 8 n i).length := by rw [baseTo_length 8 n i (by decide) hi2]; exact hlt
          have c0 := HY.out.cell i hli
          have f0 := HY.out.free i hli
          have l0 := HY.out.lt
          have hbi := baseL_at 8 n i hi1 hlt
          have HST := Aside0.mk (fun (c : UInt8) (hc : (baseL 8 n)[i]? = some c) => show Bytes (wr.setCell ⟨w.heap.size + 1, i, none⟩ (.int .u8 c.toNat)) (w.heap.size + 1) (baseTo 8 n (i + 1)) from by rw [← baseTo_step 8 n i hlt c hc]; exact HY.out.set i hli c)
          have HSK := Aside0.mk (fun (hc : (baseL 8 n)[i]? = some 0) => show Bytes wr (w.heap.size + 1) (baseTo 8 n (i + 1)) from by
            rw [← baseTo_step 8 n i hlt 0 hc, show (baseTo 8 n i).set i 0 = baseTo 8 n i from base_skip 8 n i hlt]; exact HY.out)
          have HM := Aside0.mk (fun (c : Value) => blk_miss (g' := w.heap.size + 1) (i := i) (v := c) HH.out (Nat.succ_ne_self _).symm)
          have HBI := Aside0.mk hbi
          clear hbi HY
          have hcases : i = 1 ∨ i = 2 ∨ i = 3 ∨ i = 4 ∨ i = 5 ∨ i = 6 ∨ i = 7 := by omega
          rcases hcases with rfl | rfl | rfl | rfl | rfl | rfl | rfl
          · go_wp2_with fail
            exact ⟨⟨1 + 1, by omega, by omega, rfl, ⟨by have h := HST.out _ HBI.out; rw [u8_of] at h; simpa using h⟩, ⟨HM.out _⟩, ⟨HB.out.setCell (Nat.le_succ _) _⟩⟩, by simp [intOf]⟩
          · go_wp2_with fail
            exact ⟨⟨2 + 1, by omega, by omega, rfl, ⟨by have h := HST.out _ HBI.out; rw [u8_of] at h; simpa using h⟩, ⟨HM.out _⟩, ⟨HB.out.setCell (Nat.le_succ _) _⟩⟩, by simp [intOf]⟩
          · go_wp2_with fail
            exact ⟨⟨3 + 1, by omega, by omega, rfl, ⟨by have h := HST.out _ HBI.out; rw [u8_of] at h; simpa using h⟩, ⟨HM.out _⟩, ⟨HB.out.setCell (Nat.le_succ _) _⟩⟩, by simp [intOf]⟩
          · go_wp2_with fail
            exact ⟨⟨4 + 1, by omega, by omega, rfl, ⟨by have h := HST.out _ HBI.out; rw [u8_of] at h; simpa using h⟩, ⟨HM.out _⟩, ⟨HB.out.setCell (Nat.le_succ _) _⟩⟩, by simp [intOf]⟩
          · go_wp2_with fail
            exact ⟨⟨5 + 1, by omega, by omega, rfl, ⟨by have h := HST.out _ HBI.out; rw [u8_of] at h; simpa using h⟩, ⟨HM.out _⟩, ⟨HB.out.setCell (Nat.le_succ _) _⟩⟩, by simp [intOf]⟩
          · go_wp2_with fail
            exact ⟨⟨6 + 1, by omega, by omega, rfl, ⟨by have h := HST.out _ HBI.out; rw [u8_of] at h; simpa using h⟩, ⟨HM.out _⟩, ⟨HB.out.setCell (Nat.le_succ _) _⟩⟩, by simp [intOf]⟩
          · go_wp2_with fail
            exact ⟨⟨7 + 1, by omega, by omega, rfl, ⟨by have h := HST.out _ HBI.out; rw [u8_of] at h; simpa using h⟩, ⟨HM.out _⟩, ⟨HB.out.setCell (Nat.le_succ _) _⟩⟩, by simp [intOf]⟩
        · obtain rfl : i = 8 := by omega
          have HY2 := HY.out
          rw [baseTo_all 8 n (by decide)] at HY2
          obtain ⟨L, hL⟩ : ∃ L, baseL 8 n = L := ⟨_, rfl⟩
          have hLl : L.length = 8 := by rw [← hL]; exact baseL_length _ _ (by decide)
          rw [hL] at HY2
          have HR := Aside0.mk (show res = saidR (some L) by rw [HRES.out, hL])
          have hbk := HY2.back (P := Tryz.prog) 40 9 5 8 8 hLl.symm Tryz.underlying40 Tryz.underlying5 Tryz.underlying9
          have d0 : wr.cell? ⟨w.heap.size, 0, none⟩ = some (.string ⟨#[]⟩) := blk_cell HH.out 0
          have d1 : wr.cell? ⟨w.heap.size, 1, none⟩ = some (.bool false) := blk_cell HH.out 1
          have k0 := blk_frozen HH.out 0
          have k1 := blk_frozen HH.out 1
          have lh := blk_lt HH.out
          clear HY2 hL hLl
          go_wp2_with fail
          have a1 := blk_hit (i := 0) (v := .string (mkS L)) HH.out
          have a2 := blk_hit (i := 1) (v := .bool true) a1
          simp only [List.setIfInBounds_toArray, List.set_cons_zero, List.set_cons_succ] at a2
          refine bodyPost_ret (base_res w.heap.size _ _ _ _ rfl a2) rfl ?_
          exact ⟨by rw [HR.out]; rfl, Below.setCell (Below.setCell HB.out (Nat.le_refl _) _) (Nat.le_refl _) _⟩
    · have HSG := Aside0.mk hs
      rw [hv] at HS
      go_wp2_with fail
      go_loopw [6] (fun v wr => ∃ i : Nat, 1 ≤ i ∧ i ≤ 8 ∧ v = .int .i64 (i : Int) ∧ Aside0 (Bytes wr (w.heap.size + 1) (baseTo 8 n i)) ∧ Aside0 (wr.heap[w.heap.size]? = some (.cells #[.string ⟨#[]⟩, .bool false] 64)) ∧ Aside0 (Below w.heap.size w wr)) (fun v _ => 8 - (intOf v).toNat)
      case atStart => exact ⟨1, by omega, by omega, rfl, by first | exact HS | exact HS2, ⟨by first | exact blk_miss (blk_miss H1.out (Nat.succ_ne_self _).symm) (Nat.succ_ne_self _).symm | exact blk_miss H1.out (Nat.succ_ne_self _).symm⟩, ⟨by first | exact Below.setCell HB1.out (Nat.le_succ _) _ | exact Below.setCell (Below.setCell HB1.out (Nat.le_succ _) _) (Nat.le_succ _) _⟩⟩
      case round =>
        obtain ⟨i, hi1, hi2, rfl, HY, HH, HB⟩ := hrel
        by_cases hlt : i < 8
        · have hli : i < (baseTo 8 n i).length := by rw [baseTo_length 8 n i (by decide) hi2]; exact hlt
          have c0 := HY.out.cell i hli
          have f0 := HY.out.free i hli
          have l0 := HY.out.lt
          have hbi := baseL_at 8 n i hi1 hlt
          have HST := Aside0.mk (fun (c : UInt8) (hc : (baseL 8 n)[i]? = some c) => show Bytes (wr.setCell ⟨w.heap.size + 1, i, none⟩ (.int .u8 c.toNat)) (w.heap.size + 1) (baseTo 8 n (i + 1)) from by rw [← baseTo_step 8 n i hlt c hc]; exact HY.out.set i hli c)
          have HSK := Aside0.mk (fun (hc : (baseL 8 n)[i]? = some 0) => show Bytes wr (w.heap.size + 1) (baseTo 8 n (i + 1)) from by
            rw [← baseTo_step 8 n i hlt 0 hc, show (baseTo 8 n i).set i 0 = baseTo 8 n i from base_skip 8 n i hlt]; exact HY.out)
          have HM := Aside0.mk (fun (c : Value) => blk_miss (g' := w.heap.size + 1) (i := i) (v := c) HH.out (Nat.succ_ne_self _).symm)
          have HBI := Aside0.mk hbi
          clear hbi HY
          have hcases : i = 1 ∨ i = 2 ∨ i = 3 ∨ i = 4 ∨ i = 5 ∨ i = 6 ∨ i = 7 := by omega
          rcases hcases with rfl | rfl | rfl | rfl | rfl | rfl | rfl
          · go_wp2_with fail
            exact ⟨⟨1 + 1, by omega, by omega, rfl, ⟨by have h := HST.out _ HBI.out; rw [u8_of] at h; simp only [Nat.reduceSub, Int.reducePow] at h; rw [show n / 281474976710656 % 256 = n / 281474976710656 by have := HSG.out; omega] at h; simpa using h⟩, ⟨HM.out _⟩, ⟨HB.out.setCell (Nat.le_succ _) _⟩⟩, by simp [intOf]⟩
          · go_wp2_with fail
            exact ⟨⟨2 + 1, by omega, by omega, rfl, ⟨by have h := HST.out _ HBI.out; rw [u8_of] at h; simpa using h⟩, ⟨HM.out _⟩, ⟨HB.out.setCell (Nat.le_succ _) _⟩⟩, by simp [intOf]⟩
          · go_wp2_with fail
            exact ⟨⟨3 + 1, by omega, by omega, rfl, ⟨by have h := HST.out _ HBI.out; rw [u8_of] at h; simpa using h⟩, ⟨HM.out _⟩, ⟨HB.out.setCell (Nat.le_succ _) _⟩⟩, by simp [intOf]⟩
          · go_wp2_with fail
            exact ⟨⟨4 + 1, by omega, by omega, rfl, ⟨by have h := HST.out _ HBI.out; rw [u8_of] at h; simpa using h⟩, ⟨HM.out _⟩, ⟨HB.out.setCell (Nat.le_succ _) _⟩⟩, by simp [intOf]⟩
          · go_wp2_with fail
            exact ⟨⟨5 + 1, by omega, by omega, rfl, ⟨by have h := HST.out _ HBI.out; rw [u8_of] at h; simpa using h⟩, ⟨HM.out _⟩, ⟨HB.out.setCell (Nat.le_succ _) _⟩⟩, by simp [intOf]⟩
          · go_wp2_with fail
            exact ⟨⟨6 + 1, by omega, by omega, rfl, ⟨by have h := HST.out _ HBI.out; rw [u8_of] at h; simpa using h⟩, ⟨HM.out _⟩, ⟨HB.out.setCell (Nat.le_succ _) _⟩⟩, by simp [intOf]⟩
          · go_wp2_with fail
            exact ⟨⟨7 + 1, by omega, by omega, rfl, ⟨by have h := HST.out _ HBI.out; rw [u8_of] at h; simpa using h⟩, ⟨HM.out _⟩, ⟨HB.out.setCell (Nat.le_succ _) _⟩⟩, by simp [intOf]⟩
        · obtain rfl : i = 8 := by omega
          have HY2 := HY.out
          rw [baseTo_all 8 n (by decide)] at HY2
          obtain ⟨L, hL⟩ : ∃ L, baseL 8 n = L := ⟨_, rfl⟩
          have hLl : L.length = 8 := by rw [← hL]; exact baseL_length _ _ (by decide)
          rw [hL] at HY2
          have HR := Aside0.mk (show res = saidR (some L) by rw [HRES.out, hL])
          have hbk := HY2.back (P := Tryz.prog) 40 9 5 8 8 hLl.symm Tryz.underlying40 Tryz.underlying5 Tryz.underlying9
          have d0 : wr.cell? ⟨w.heap.size, 0, none⟩ = some (.string ⟨#[]⟩) := blk_cell HH.out 0
          have d1 : wr.cell? ⟨w.heap.size, 1, none⟩ = some (.bool false) := blk_cell HH.out 1
          have k0 := blk_frozen HH.out 0
          have k1 := blk_frozen HH.out 1
          have lh := blk_lt HH.out
          clear HY2 hL hLl
          go_wp2_with fail
          have a1 := blk_hit (i := 0) (v := .string (mkS L)) HH.out
          have a2 := blk_hit (i := 1) (v := .bool true) a1
          simp only [List.setIfInBounds_toArray, List.set_cons_zero, List.set_cons_succ] at a2
          refine bodyPost_ret (base_res w.heap.size _ _ _ _ rfl a2) rfl ?_
          exact ⟨by rw [HR.out]; rfl, Below.setCell (Below.setCell HB.out (Nat.le_refl _) _) (Nat.le_refl _) _⟩
end Go.Proofs.YtpmiddhdgidimaaGreatDoor
namespace Go.Proofs.YtpmiddhdgidimaaGreatDoor
open Go.RowKit Go.Proofs.YtpmiddhdgidimaaGreatDoorW.PrintWords

theorem rOctal_any (n : Int) (wd : Nat) (w : World) (hw : wd = 8 ∨ wd = 12) (hn0 : -9223372036854775808 ≤ n) (hn : n ≤ 9223372036854775807) :
    Calls Tryz.prog 34 #[.int .i64 n, .int .i64 (wd : Int)] w fun e w' => e = .returned (saidR (if octOk wd n = true then some (octL wd n.toNat) else none)) ∧ Below w.heap.size w w' := by
  by_cases h : n < 0
  · have : octOk wd n = false := by unfold octOk; rw [show decide (0 ≤ n) = false by simp; omega, Bool.false_and]
    rw [this]
    exact rOctal_neg n wd w hw h
  · obtain ⟨m, rfl⟩ : ∃ m : Nat, n = m := ⟨n.toNat, by omega⟩
    exact rOctal_pos m wd w hw (by omega)
theorem rBase_any (n : Int) (wd : Nat) (w : World) (hw : wd = 8 ∨ wd = 12) (hn0 : -9223372036854775808 ≤ n) (hn : n ≤ 9223372036854775807) :
    Calls Tryz.prog 51 #[.int .i64 n, .int .i64 (wd : Int)] w fun e w' => e = .returned (saidR (if baseOk wd n = true then some (baseL wd n) else none)) ∧ Below w.heap.size w w' := by
  cases hb : baseOk wd n with
  | true => exact rBase_near n wd w hw hn0 hn hb
  | false =>
    unfold baseOk at hb
    rcases hw with rfl | rfl
    · exact rBase_far n w (by simp at hb; omega)
    · simp at hb
theorem field_res (p : Nat) (x0 x1 : Value) (tmps : Array Value) (W : World) (t8 : tmps.getD 4 undef = .pointer (some ⟨p, 0, none⟩)) (H : W.heap[p]? = some (.cells #[x0, x1] 64)) :
    (results Tryz.f29 tmps).run Tryz.prog W = .ok (.agg #[x0, x1]) W := by
  have c0 : W.cell? ⟨p, 0, none⟩ = some x0 := blk_cell H 0
  have c1 : W.cell? ⟨p, 1, none⟩ = some x1 := blk_cell H 1
  clear H
  replace t8 : tmps[4]?.getD undef = .pointer (some ⟨p, 0, none⟩) := by simpa using t8
  simp only [results, Tryz.results29]
  simp [Sem.run_bind, Result.andThen, t8, go_sem, c0, c1]
set_option maxHeartbeats 4000000 in
set_option maxRecDepth 100000 in
theorem rField_any (n : Int) (wd : Nat) (w : World) (hw : wd = 8 ∨ wd = 12) (hn0 : -9223372036854775808 ≤ n) (hn : n ≤ 9223372036854775807) :
    Calls Tryz.prog 29 #[.int .i64 n, .int .i64 (wd : Int)] w fun e w' => e = .returned (saidR (fieldT n wd)) ∧ Below w.heap.size w w' := by
  have h1 := fun W => rOctal_any n wd W hw hn0 hn
  have h2 := fun W => rBase_any n wd W hw hn0 hn
  obtain ⟨res, hres⟩ : ∃ r, r = saidR (fieldT n wd) := ⟨_, rfl⟩
  rw [← hres]
  have HRES := Aside0.mk hres
  clear hres
  have H := heap_alloc_new w (.cells #[.string ⟨#[]⟩, .bool false] 64)
  have HB0 := Aside0.mk (below_alloc (Below.refl w.heap.size w) (.cells #[.string ⟨#[]⟩, .bool false] 64))
  cases ho : octOk wd n with
  | true =>
    simp only [ho, if_true, saidR] at h1
    have HO := Aside0.mk (show res = .agg #[.string (mkS (octL wd n.toNat)), .bool true] by rw [HRES.out]; unfold fieldT; rw [if_pos ho]; rfl)
    obtain ⟨L, hL⟩ : ∃ L, octL wd n.toNat = L := ⟨_, rfl⟩
    rw [hL] at h1 HO
    have H1 := Aside0.mk h1
    clear h1 h2 ho hL
    go_enter Tryz.func29, Tryz.ntmps29
    go_wp2_with fail
    refine (H1.out _).mono ?_
    rintro e w1 ⟨rfl, hb1⟩
    have H2 := Aside0.mk ((hb1.block _ (blk_lt H)).trans H)
    have B2 := Aside0.mk (below_next HB0.out hb1)
    clear hb1 H HB0
    have c0 : w1.cell? ⟨w.heap.size, 0, none⟩ = some (.string ⟨#[]⟩) := blk_cell H2.out 0
    have c1 : w1.cell? ⟨w.heap.size, 1, none⟩ = some (.bool false) := blk_cell H2.out 1
    have f0 := blk_frozen H2.out 0
    have f1 := blk_frozen H2.out 1
    have lh := blk_lt H2.out
    go_wp2_with fail
    have a1 := blk_hit (i := 0) (v := .string (mkS L)) H2.out
    have a2 := blk_hit (i := 1) (v := .bool true) a1
    simp only [List.setIfInBounds_toArray, List.set_cons_zero, List.set_cons_succ] at a2
    refine bodyPost_ret (field_res w.heap.size _ _ _ _ rfl (blk_alloc a2 _)) rfl ?_
    exact ⟨by rw [HO.out], below_alloc (Below.setCell (Below.setCell B2.out (Nat.le_refl _) _) (Nat.le_refl _) _) _⟩
  | false =>
    simp only [ho, Bool.false_eq_true, if_false, saidR] at h1
    have H1 := Aside0.mk h1
    obtain ⟨s, b, hsb⟩ : ∃ s b, saidR (if baseOk wd n = true then some (baseL wd n) else none) = .agg #[.string s, .bool b] := by
      cases (if baseOk wd n = true then some (baseL wd n) else none) with
      | some l => exact ⟨_, _, rfl⟩
      | none => exact ⟨_, _, rfl⟩
    have HO := Aside0.mk (show res = .agg #[.string s, .bool b] by rw [HRES.out, ← hsb]; unfold fieldT; rw [if_neg (by simp [ho])])
    rw [hsb] at h2
    have H2 := Aside0.mk h2
    clear h1 h2 ho hsb
    go_enter Tryz.func29, Tryz.ntmps29
    go_wp2_with fail
    refine (H1.out _).mono ?_
    rintro e w1 ⟨rfl, hb1⟩
    have G1 := Aside0.mk ((hb1.block _ (blk_lt H)).trans H)
    have B2 := Aside0.mk (below_next HB0.out hb1)
    clear hb1 H HB0
    go_wp2_with fail
    have G2 := Aside0.mk (blk_alloc G1.out (.cells #[.string ⟨#[]⟩, .bool false] 64))
    have B3 := Aside0.mk (below_alloc B2.out (.cells #[.string ⟨#[]⟩, .bool false] 64))
    refine (H2.out _).mono ?_
    rintro e w2 ⟨rfl, hb2⟩
    have G3 := Aside0.mk ((hb2.block _ (blk_lt G2.out)).trans G2.out)
    have B4 := Aside0.mk (below_next B3.out hb2)
    clear hb2
    have c0 : w2.cell? ⟨w.heap.size, 0, none⟩ = some (.string ⟨#[]⟩) := blk_cell G3.out 0
    have c1 : w2.cell? ⟨w.heap.size, 1, none⟩ = some (.bool false) := blk_cell G3.out 1
    have f0 := blk_frozen G3.out 0
    have f1 := blk_frozen G3.out 1
    have lh := blk_lt G3.out
    go_wp2_with fail
    have a1 := blk_hit (i := 0) (v := .string s) G3.out
    have a2 := blk_hit (i := 1) (v := .bool b) a1
    simp only [List.setIfInBounds_toArray, List.set_cons_zero, List.set_cons_succ] at a2
    refine bodyPost_ret (field_res w.heap.size _ _ _ _ rfl a2) rfl ?_
    exact ⟨by rw [HO.out], Below.setCell (Below.setCell B4.out (Nat.le_refl _) _) (Nat.le_refl _) _⟩
end Go.Proofs.YtpmiddhdgidimaaGreatDoor
namespace Go.Proofs.YtpmiddhdgidimaaGreatDoor
open Go.RowKit Go.Proofs.YtpmiddhdgidimaaGreatDoorW.PrintWords

theorem mkS_at {S : List UInt8} {a : Nat} (ha : a < S.length) : ∀ h, (mkS S)[a]'h = S.getD a 0 := fun h => by
  rw [List.getD_eq_getElem?_getD, List.getElem?_eq_getElem ha]
  simp [mkS, ByteArray.getElem_eq_getElem_data]
theorem contains_at {S : List UInt8} {a : Nat} (ha : a < S.length) (h : S.getD a 0 = 0) : S.contains 0 = true := by
  rw [List.getD_eq_getElem?_getD, List.getElem?_eq_getElem ha] at h
  simp only [List.contains_eq_mem, decide_eq_true_eq]
  have h2 : S[a] = 0 := h
  rw [← h2]
  exact List.getElem_mem ha
theorem contains_none {S : List UInt8} (h : ∀ j, j < S.length → S.getD j 0 ≠ 0) : S.contains 0 = false := by
  rw [Bool.eq_false_iff]
  intro hc
  simp only [List.contains_eq_mem, decide_eq_true_eq] at hc
  obtain ⟨a, ha, he⟩ := List.getElem_of_mem hc
  refine h a ha ?_
  rw [List.getD_eq_getElem?_getD, List.getElem?_eq_getElem ha]
  exact he
theorem b_ne0 {b : UInt8} (hb : b ≠ 0) : ((b.toNat : Int) == 0) = false ∧ ¬ ((b.toNat : Int) = 0) := by
  have : b.toNat ≠ 0 := fun h => hb (UInt8.toNat_inj.1 h)
  constructor
  · rw [beq_eq_false_iff_ne]; omega
  · omega
set_option maxHeartbeats 1000000 in
theorem rHas_any (S : List UInt8) (w : World) (hl : S.length ≤ 1000000) :
    Calls Tryz.prog 50 #[.string (mkS S), .int .u8 0] w fun e w' => e = .returned (.bool (S.contains 0)) ∧ w' = w := by
  obtain ⟨r, hr⟩ : ∃ r, r = S.contains 0 := ⟨_, rfl⟩
  rw [← hr]
  have HR := Aside0.mk hr
  clear hr
  go_enter Tryz.func50, Tryz.ntmps50
  go_wp2_with fail
  go_loopw [5] (fun v wr => ∃ i : Nat, i ≤ S.length ∧ v = .int .i64 (i : Int) ∧ wr = w ∧ Aside0 (∀ j, j < i → S.getD j 0 ≠ 0)) (fun v _ => S.length - (intOf v).toNat)
  case atStart => exact ⟨0, Nat.zero_le _, rfl, rfl, ⟨fun j hj => by omega⟩⟩
  case round =>
    obtain ⟨a, ha, rfl, rfl, hno⟩ := hrel
    by_cases hlt : a < S.length
    · have v1 : (a : Int) < (S.length : Int) := by omega
      have hb0 := mkS_at hlt
      have HC := Aside0.mk (contains_at hlt)
      have HN := Aside0.mk (fun (h : S.getD a 0 ≠ 0) => show ∀ j, j < a + 1 → S.getD j 0 ≠ 0 from fun j hj => by
        rcases Nat.lt_succ_iff_lt_or_eq.1 hj with h' | rfl
        · exact hno.out j h'
        · exact h)
      generalize S.getD a 0 = b at *
      by_cases hb : b = 0
      · subst hb
        have h3 := Aside0.mk (HC.out rfl)
        go_wp2_with fail
        go_ret
        exact ⟨by rw [HR.out, h3.out]; rfl, rfl⟩
      · obtain ⟨e0, e1⟩ := b_ne0 hb
        have HN2 := Aside0.mk (HN.out hb)
        go_wp2_with fail
        exact ⟨⟨a + 1, by omega, by go_num, trivial, HN2⟩, by simp [intOf]; omega⟩
    · obtain rfl : a = S.length := by omega
      have h3 := Aside0.mk (contains_none hno.out)
      go_wp2_with fail
      go_ret
      exact ⟨by rw [HR.out, h3.out]; rfl, rfl⟩
theorem rTruth_any (b : Bool) (w : World) : Calls Tryz.prog 61 #[.bool b] w fun e w' => e = .returned (.int .i64 (if b = true then 1 else 0)) ∧ w' = w := by
  cases b
  all_goals
    go_enter Tryz.func61, Tryz.ntmps61
    go_wp2_with fail
    go_ret
    exact ⟨rfl, rfl⟩
set_option maxHeartbeats 1000000 in
theorem rShort_any (S : List UInt8) (n : Nat) (w : World) (hn : n ≤ 1000000) :
    Calls Tryz.prog 27 #[.string (mkS S), .int .i64 (n : Int)] w fun e w' => e = .returned (.bool (textOk S n)) ∧ w' = w := by
  obtain ⟨r, hr⟩ : ∃ r, r = textOk S n := ⟨_, rfl⟩
  rw [← hr]
  unfold textOk at hr
  have HR := Aside0.mk hr
  clear hr
  by_cases h : S.length ≤ n
  · have u1 : (S.length : Int) ≤ (n : Int) := by omega
    have H1 := Aside0.mk (rHas_any S w (by omega))
    have HR2 := Aside0.mk (show r = !S.contains 0 by rw [HR.out, decide_eq_true h]; rfl)
    generalize S.contains 0 = c at *
    clear HR
    cases c
    all_goals
      go_enter Tryz.func27, Tryz.ntmps27
      go_wp2_with fail
      refine H1.out.mono ?_
      rintro e w1 ⟨rfl, rfl⟩
      go_wp2_with fail
      go_ret
      exact ⟨by rw [HR2.out]; rfl, rfl⟩
  · have u1 : ¬ (S.length : Int) ≤ (n : Int) := by omega
    have HR2 := Aside0.mk (show r = false by rw [HR.out, decide_eq_false h]; rfl)
    clear HR
    go_enter Tryz.func27, Tryz.ntmps27
    go_wp2_with fail
    go_ret
    exact ⟨by rw [HR2.out]; rfl, rfl⟩
theorem ahead_at {S : List UInt8} {a : Nat} (ha : a < S.length) (hno : ∀ j, j < a → S.getD j 0 ≠ 0) (h : S.getD a 0 = 0) : ahead S = S.take a := by
  induction S generalizing a with
  | nil => simp at ha
  | cons c S ih =>
    unfold ahead at ih ⊢
    cases a with
    | zero => rw [List.getD_cons_zero] at h; subst h; simp
    | succ a =>
      have h0 := hno 0 (by omega)
      rw [List.getD_cons_zero] at h0
      rw [List.takeWhile_cons_of_pos (by simpa using h0), List.take_succ_cons, ih (by simpa using ha) (fun j hj => by have := hno (j + 1) (by omega); rwa [List.getD_cons_succ] at this) (by rwa [List.getD_cons_succ] at h)]
theorem ahead_none {S : List UInt8} (hno : ∀ j, j < S.length → S.getD j 0 ≠ 0) : ahead S = S := by
  induction S with
  | nil => rfl
  | cons c S ih =>
    unfold ahead at ih ⊢
    have h0 := hno 0 (by simp)
    rw [List.getD_cons_zero] at h0
    rw [List.takeWhile_cons_of_pos (by simpa using h0), ih (fun j hj => by have := hno (j + 1) (by simpa using hj); rwa [List.getD_cons_succ] at this)]
set_option maxHeartbeats 1000000 in
theorem rText_any (S : List UInt8) (w : World) (hl : S.length ≤ 1000000) :
    Calls Tryz.prog 21 #[.string (mkS S)] w fun e w' => e = .returned (.string (mkS (ahead S))) ∧ w' = w := by
  obtain ⟨r, hr⟩ : ∃ r, r = mkS (ahead S) := ⟨_, rfl⟩
  rw [← hr]
  have HR := Aside0.mk hr
  clear hr
  go_enter Tryz.func21, Tryz.ntmps21
  go_wp2_with fail
  go_loopw [3] (fun v wr => ∃ i : Nat, i ≤ S.length ∧ v = .int .i64 (i : Int) ∧ wr = w ∧ Aside0 (∀ j, j < i → S.getD j 0 ≠ 0)) (fun v _ => S.length - (intOf v).toNat)
  case atStart => exact ⟨0, Nat.zero_le _, rfl, rfl, ⟨fun j hj => by omega⟩⟩
  case round =>
    obtain ⟨a, ha, rfl, rfl, hno⟩ := hrel
    by_cases hlt : a < S.length
    · have v1 : (a : Int) < (S.length : Int) := by omega
      have hb0 := mkS_at hlt
      have HC := Aside0.mk (ahead_at hlt hno.out)
      have HN := Aside0.mk (fun (h : S.getD a 0 ≠ 0) => show ∀ j, j < a + 1 → S.getD j 0 ≠ 0 from fun j hj => by
        rcases Nat.lt_succ_iff_lt_or_eq.1 hj with h' | rfl
        · exact hno.out j h'
        · exact h)
      generalize S.getD a 0 = b at *
      by_cases hb : b = 0
      · subst hb
        have h3 := Aside0.mk (show r = (mkS S).extract 0 a by rw [HR.out, HC.out rfl, extract_mkS, List.drop_zero, Nat.sub_zero])
        go_wp2_with fail
        go_ret
        exact ⟨by rw [h3.out]; rfl, rfl⟩
      · obtain ⟨e0, e1⟩ := b_ne0 hb
        have HN2 := Aside0.mk (HN.out hb)
        go_wp2_with fail
        exact ⟨⟨a + 1, by omega, by go_num, trivial, HN2⟩, by simp [intOf]; omega⟩
    · obtain rfl : a = S.length := by omega
      have h3 := Aside0.mk (ahead_none hno.out)
      go_wp2_with fail
      go_ret
      exact ⟨by rw [HR.out, h3.out]; try rfl, rfl⟩
end Go.Proofs.YtpmiddhdgidimaaGreatDoor
namespace Go.Proofs.YtpmiddhdgidimaaGreatDoor
open Go.RowKit Go.Proofs.YtpmiddhdgidimaaGreatDoorW.PrintWords

def wholeB (n : Int) (wd : Nat) : Bool := decide (0 ≤ n) && (fieldT n wd).isSome
theorem saidR_pair (o : Option (List UInt8)) : ∃ s, saidR o = .agg #[.string s, .bool o.isSome] := by cases o <;> exact ⟨_, rfl⟩
set_option maxHeartbeats 4000000 in
set_option maxRecDepth 100000 in
theorem rWhole_any (n : Int) (wd : Nat) (w : World) (hw : wd = 8 ∨ wd = 12) (hn0 : -9223372036854775808 ≤ n) (hn : n ≤ 9223372036854775807) :
    Calls Tryz.prog 28 #[.int .i64 n, .int .i64 (wd : Int)] w fun e w' => e = .returned (.bool (wholeB n wd)) ∧ Below w.heap.size w w' := by
  obtain ⟨r, hr⟩ : ∃ r, r = wholeB n wd := ⟨_, rfl⟩
  rw [← hr]
  unfold wholeB at hr
  have HR := Aside0.mk hr
  clear hr
  by_cases h : 0 ≤ n
  · have h1 := rField_any n wd w hw hn0 hn
    obtain ⟨s, hs⟩ := saidR_pair (fieldT n wd)
    have HR2 := Aside0.mk (show r = (fieldT n wd).isSome by rw [HR.out, decide_eq_true h]; rfl)
    rw [hs] at h1
    generalize (fieldT n wd).isSome = c at *
    have H1 := Aside0.mk h1
    clear h1 HR hs
    go_enter Tryz.func28, Tryz.ntmps28
    go_wp2_with fail
    refine H1.out.mono ?_
    rintro e w1 ⟨rfl, hb1⟩
    have B1 := Aside0.mk hb1
    clear hb1
    have hfd : ∀ w : World, (Instr.field 64 (.agg #[.string s, .bool c]) 1).run Tryz.prog w = .ok (.bool c) w := fun _ => by kernel_rfl
    cases c
    all_goals
      go_wp2_with fail
      go_ret
      exact ⟨by rw [HR2.out]; rfl, B1.out⟩
  · have HR2 := Aside0.mk (show r = false by rw [HR.out, decide_eq_false h]; rfl)
    clear HR
    go_enter Tryz.func28, Tryz.ntmps28
    go_wp2_with fail
    go_ret
    exact ⟨by rw [HR2.out]; rfl, Below.refl _ _⟩
set_option maxHeartbeats 1000000 in
theorem rFilled_any (l : List UInt8) (n : Nat) (w : World) (hl : l.length ≤ n) (hn : n ≤ 1000000) :
    Calls Tryz.prog 33 #[.string (mkS l), .int .i64 (n : Int)] w fun e w' => e = .returned (.string (mkS (fill l n))) ∧ Below w.heap.size w w' := by
  obtain ⟨W, hmk, hb, hsz, hcv⟩ := zeros_world (n - l.length) (by omega) w
  obtain ⟨k, hk⟩ : ∃ k, k = n - l.length := ⟨_, rfl⟩
  rw [← hk] at hmk hcv
  have hi : (n : Int) - (l.length : Int) = (k : Int) := by omega
  have hwp : IntKind.i64.wrap (k : Int) = (k : Int) := by rw [IntKind.wrap_i64]; omega
  have a1 := fun W => str_add (P := Tryz.prog) (s := mkS l) (t := mkS (List.replicate k 0)) (a := l) (b := List.replicate k 0) (c := fill l n) rfl rfl (by rw [hk]; rfl) (by rw [fill_length _ _ hl]; omega) W
  generalize fill l n = F at *
  have B := Aside0.mk hb
  clear hb hk
  go_enter Tryz.func33, Tryz.ntmps33
  go_wp2_with fail
  go_ret
  exact ⟨rfl, B.out⟩
set_option maxHeartbeats 2000000 in
set_option maxRecDepth 100000 in
theorem rJoin_any (h : Hd) (w : World) (hn : h.name.length ≤ 140737488355328) (hp : h.pre.length ≤ 140737488355328) :
    Calls Tryz.prog 15 #[.agg (hdCells h)] w fun e w' => e = .returned (.string (mkS (joinT h))) ∧ Below w.heap.size w w' := by
  have HB0 := Aside0.mk (below_alloc (Below.refl w.heap.size w) (.cells (hdCells h) 23))
  obtain ⟨name, mode, uid, gid, size, mtime, typ, link, uname, gname, major, minor, pre⟩ := h
  simp only at hn hp
  rcases pre with _ | ⟨c, t⟩
  · have e0 : (mkS [] == (⟨#[]⟩ : ByteArray)) = true := by decide
    have HJ : joinT ⟨name, mode, uid, gid, size, mtime, typ, link, uname, gname, major, minor, []⟩ = name := rfl
    rw [HJ]
    clear HJ
    unfold hdCells at HB0 ⊢
    simp only at HB0 ⊢
    go_enter Tryz.func15, Tryz.ntmps15
    go_wp2
    go_ret
    exact ⟨rfl, HB0.out⟩
  · have HJ : joinT ⟨name, mode, uid, gid, size, mtime, typ, link, uname, gname, major, minor, c :: t⟩ = (c :: t) ++ 47 :: name := rfl
    rw [HJ]
    clear HJ
    have e0 : (c :: t).isEmpty = false := rfl
    obtain ⟨pre, hpre⟩ : ∃ pre, c :: t = pre := ⟨_, rfl⟩
    rw [hpre] at e0 hp HB0 ⊢
    clear hpre
    have a1 := fun W => str_add (P := Tryz.prog) (s := mkS pre) (t := ⟨#[47]⟩) (a := pre) (b := [47]) rfl rfl rfl (by simp; omega) W
    obtain ⟨p1, hp1⟩ : ∃ p1, pre ++ [47] = p1 := ⟨_, rfl⟩
    have hl : p1.length = pre.length + 1 := by rw [← hp1]; simp
    rw [hp1] at a1
    have a2 := fun W => str_add (P := Tryz.prog) (s := mkS p1) (t := mkS name) (a := p1) (b := name) rfl rfl rfl (by simp; omega) W
    have HE : pre ++ 47 :: name = p1 ++ name := by rw [← hp1]; simp
    rw [HE]
    clear HE hp1 hl
    unfold hdCells at HB0 ⊢
    simp only at HB0 ⊢
    go_enter Tryz.func15, Tryz.ntmps15
    go_wp2
    go_ret
    exact ⟨rfl, HB0.out⟩
end Go.Proofs.YtpmiddhdgidimaaGreatDoor
namespace Go.Proofs.YtpmiddhdgidimaaGreatDoor
open Go.RowKit Go.Proofs.YtpmiddhdgidimaaGreatDoorW.PrintWords

theorem mayR_parts (h : Hd) : mayH h = (textOk h.name 100 && textOk h.link 100 && textOk h.uname 32 && textOk h.gname 32 && textOk h.pre 155 && wholeB h.mode 8 && wholeB h.uid 8 && wholeB h.gid 8 && wholeB h.major 8 && wholeB h.minor 8 && wholeB h.size 12 && (fieldT h.mtime 12).isSome) := by
  unfold mayH numOk wholeB
  generalize textOk h.name 100 = a1
  generalize textOk h.link 100 = a2
  generalize textOk h.uname 32 = a3
  generalize textOk h.gname 32 = a4
  generalize textOk h.pre 155 = a5
  generalize (fieldT h.mode 8).isSome = b1
  generalize (fieldT h.uid 8).isSome = b2
  generalize (fieldT h.gid 8).isSome = b3
  generalize (fieldT h.major 8).isSome = b4
  generalize (fieldT h.minor 8).isSome = b5
  generalize (fieldT h.size 12).isSome = b6
  generalize (fieldT h.mtime 12).isSome = b7
  rw [Bool.eq_iff_iff]
  simp only [Bool.and_eq_true, decide_eq_true_eq]
  constructor
  · rintro ⟨⟨⟨⟨⟨⟨h1, h2⟩, h3⟩, h4⟩, h5⟩, ⟨⟨⟨⟨h6, h7⟩, h8⟩, h9⟩, h10⟩⟩, ⟨⟨h11, h12⟩, h13⟩⟩
    exact ⟨⟨⟨⟨⟨⟨⟨⟨⟨⟨⟨h1, h2⟩, h3⟩, h4⟩, h5⟩, h6.2, h6.1⟩, h7.2, h7.1⟩, h8.2, h8.1⟩, h9.2, h9.1⟩, h10.2, h10.1⟩, h13, h11⟩, h12⟩
  · rintro ⟨⟨⟨⟨⟨⟨⟨⟨⟨⟨⟨h1, h2⟩, h3⟩, h4⟩, h5⟩, h6⟩, h7⟩, h8⟩, h9⟩, h10⟩, h11⟩, h12⟩
    exact ⟨⟨⟨⟨⟨⟨h1, h2⟩, h3⟩, h4⟩, h5⟩, ⟨⟨⟨⟨h6.2, h6.1⟩, h7.2, h7.1⟩, h8.2, h8.1⟩, h9.2, h9.1⟩, h10.2, h10.1⟩, ⟨⟨h11.2, h12⟩, h11.1⟩⟩
set_option maxHeartbeats 8000000 in
set_option maxRecDepth 100000 in
theorem rMay_any (h : Hd) (w : World) (hi : Ints h) :
    Calls Tryz.prog 10 #[.agg (hdCells h)] w fun e w' => e = .returned (.bool (mayH h)) ∧ Below w.heap.size w w' := by
  have H := Aside0.mk (heap_alloc_new w (.cells (hdCells h) 23))
  have HB0 := Aside0.mk (below_alloc (Below.refl w.heap.size w) (.cells (hdCells h) 23))
  rw [mayR_parts]
  obtain ⟨name, mode, uid, gid, size, mtime, typ, link, uname, gname, major, minor, pre⟩ := h
  obtain ⟨i1, i2, i3, i4, i5, i6, i7⟩ := hi
  have s1 := fun W => rShort_any name 100 W (by decide)
  have s2 := fun W => rShort_any link 100 W (by decide)
  have s3 := fun W => rShort_any uname 32 W (by decide)
  have s4 := fun W => rShort_any gname 32 W (by decide)
  have s5 := fun W => rShort_any pre 155 W (by decide)
  have q1 := fun W => rWhole_any mode 8 W (.inl rfl) i1.1 i1.2
  have q2 := fun W => rWhole_any uid 8 W (.inl rfl) i2.1 i2.2
  have q3 := fun W => rWhole_any gid 8 W (.inl rfl) i3.1 i3.2
  have q4 := fun W => rWhole_any major 8 W (.inl rfl) i6.1 i6.2
  have q5 := fun W => rWhole_any minor 8 W (.inl rfl) i7.1 i7.2
  have q6 := fun W => rWhole_any size 12 W (.inr rfl) i4.1 i4.2
  have q7 := fun W => rField_any mtime 12 W (.inr rfl) i5.1 i5.2
  obtain ⟨s, hs⟩ := saidR_pair (fieldT mtime 12)
  rw [hs] at q7
  clear hs i1 i2 i3 i4 i5 i6 i7
  simp only
  generalize textOk name 100 = a1 at *
  generalize textOk link 100 = a2 at *
  generalize textOk uname 32 = a3 at *
  generalize textOk gname 32 = a4 at *
  generalize textOk pre 155 = a5 at *
  generalize wholeB mode 8 = b1 at *
  generalize wholeB uid 8 = b2 at *
  generalize wholeB gid 8 = b3 at *
  generalize wholeB major 8 = b4 at *
  generalize wholeB minor 8 = b5 at *
  generalize wholeB size 12 = b6 at *
  generalize (fieldT mtime 12).isSome = b7 at *
  obtain ⟨r, hr⟩ : ∃ r, r = (a1 && a2 && a3 && a4 && a5 && b1 && b2 && b3 && b4 && b5 && b6 && b7) := ⟨_, rfl⟩
  rw [← hr]
  have HR := Aside0.mk hr
  have hfd : ∀ w : World, (Instr.field 64 (.agg #[.string s, .bool b7]) 1).run Tryz.prog w = .ok (.bool b7) w := fun _ => by kernel_rfl
  have S1 := Aside0.mk s1
  have S2 := Aside0.mk s2
  have S3 := Aside0.mk s3
  have S4 := Aside0.mk s4
  have S5 := Aside0.mk s5
  have Q1 := Aside0.mk q1
  have Q2 := Aside0.mk q2
  have Q3 := Aside0.mk q3
  have Q4 := Aside0.mk q4
  have Q5 := Aside0.mk q5
  have Q6 := Aside0.mk q6
  have Q7 := Aside0.mk q7
  clear hr s1 s2 s3 s4 s5 q1 q2 q3 q4 q5 q6 q7
  unfold hdCells at H HB0 ⊢
  simp only at H HB0 ⊢
  go_enter Tryz.func10, Tryz.ntmps10
  go_wp2_with fail
  refine (S1.out _).mono ?_
  rintro e w1 ⟨rfl, rfl⟩
  cases a1
  · go_wp2_with fail
    go_ret
    exact ⟨by rw [HR.out]; simp, HB0.out⟩
  go_wp2_with fail
  refine (S2.out _).mono ?_
  rintro e w1 ⟨rfl, rfl⟩
  cases a2
  · go_wp2_with fail
    go_ret
    exact ⟨by rw [HR.out]; simp, HB0.out⟩
  go_wp2_with fail
  refine (S3.out _).mono ?_
  rintro e w1 ⟨rfl, rfl⟩
  cases a3
  · go_wp2_with fail
    go_ret
    exact ⟨by rw [HR.out]; simp, HB0.out⟩
  go_wp2_with fail
  refine (S4.out _).mono ?_
  rintro e w1 ⟨rfl, rfl⟩
  cases a4
  · go_wp2_with fail
    go_ret
    exact ⟨by rw [HR.out]; simp, HB0.out⟩
  go_wp2_with fail
  refine (S5.out _).mono ?_
  rintro e w1 ⟨rfl, rfl⟩
  cases a5
  · go_wp2_with fail
    go_ret
    exact ⟨by rw [HR.out]; simp, HB0.out⟩
  go_wp2_with fail
  refine (Q1.out _).mono ?_
  rintro e w2 ⟨rfl, hb2⟩
  replace H := Aside0.mk ((hb2.block _ (blk_lt H.out)).trans H.out)
  replace HB0 := Aside0.mk (below_next HB0.out hb2)
  clear hb2
  cases b1
  · go_wp2_with fail
    go_ret
    exact ⟨by rw [HR.out]; simp, HB0.out⟩
  try clear w1
  obtain ⟨w1, hw1⟩ : ∃ w1, w1 = w2 := ⟨_, rfl⟩
  subst hw1
  have c2 : w1.cell? ⟨w.heap.size, 2, none⟩ = some (.int .i64 uid) := blk_cell H.out 2
  go_wp2_with fail
  refine (Q2.out _).mono ?_
  rintro e w2 ⟨rfl, hb2⟩
  replace H := Aside0.mk ((hb2.block _ (blk_lt H.out)).trans H.out)
  replace HB0 := Aside0.mk (below_next HB0.out hb2)
  clear hb2
  clear c2
  cases b2
  · go_wp2_with fail
    go_ret
    exact ⟨by rw [HR.out]; simp, HB0.out⟩
  try clear w1
  obtain ⟨w1, hw1⟩ : ∃ w1, w1 = w2 := ⟨_, rfl⟩
  subst hw1
  have c3 : w1.cell? ⟨w.heap.size, 3, none⟩ = some (.int .i64 gid) := blk_cell H.out 3
  go_wp2_with fail
  refine (Q3.out _).mono ?_
  rintro e w2 ⟨rfl, hb2⟩
  replace H := Aside0.mk ((hb2.block _ (blk_lt H.out)).trans H.out)
  replace HB0 := Aside0.mk (below_next HB0.out hb2)
  clear hb2
  clear c3
  cases b3
  · go_wp2_with fail
    go_ret
    exact ⟨by rw [HR.out]; simp, HB0.out⟩
  try clear w1
  obtain ⟨w1, hw1⟩ : ∃ w1, w1 = w2 := ⟨_, rfl⟩
  subst hw1
  have c4 : w1.cell? ⟨w.heap.size, 10, none⟩ = some (.int .i64 major) := blk_cell H.out 10
  go_wp2_with fail
  refine (Q4.out _).mono ?_
  rintro e w2 ⟨rfl, hb2⟩
  replace H := Aside0.mk ((hb2.block _ (blk_lt H.out)).trans H.out)
  replace HB0 := Aside0.mk (below_next HB0.out hb2)
  clear hb2
  clear c4
  cases b4
  · go_wp2_with fail
    go_ret
    exact ⟨by rw [HR.out]; simp, HB0.out⟩
  try clear w1
  obtain ⟨w1, hw1⟩ : ∃ w1, w1 = w2 := ⟨_, rfl⟩
  subst hw1
  have c5 : w1.cell? ⟨w.heap.size, 11, none⟩ = some (.int .i64 minor) := blk_cell H.out 11
  go_wp2_with fail
  refine (Q5.out _).mono ?_
  rintro e w2 ⟨rfl, hb2⟩
  replace H := Aside0.mk ((hb2.block _ (blk_lt H.out)).trans H.out)
  replace HB0 := Aside0.mk (below_next HB0.out hb2)
  clear hb2
  clear c5
  cases b5
  · go_wp2_with fail
    go_ret
    exact ⟨by rw [HR.out]; simp, HB0.out⟩
  try clear w1
  obtain ⟨w1, hw1⟩ : ∃ w1, w1 = w2 := ⟨_, rfl⟩
  subst hw1
  have c6 : w1.cell? ⟨w.heap.size, 4, none⟩ = some (.int .i64 size) := blk_cell H.out 4
  go_wp2_with fail
  refine (Q6.out _).mono ?_
  rintro e w2 ⟨rfl, hb2⟩
  replace H := Aside0.mk ((hb2.block _ (blk_lt H.out)).trans H.out)
  replace HB0 := Aside0.mk (below_next HB0.out hb2)
  clear hb2
  clear c6
  cases b6
  · go_wp2_with fail
    go_ret
    exact ⟨by rw [HR.out]; simp, HB0.out⟩
  try clear w1
  obtain ⟨w1, hw1⟩ : ∃ w1, w1 = w2 := ⟨_, rfl⟩
  subst hw1
  have c7 : w1.cell? ⟨w.heap.size, 5, none⟩ = some (.int .i64 mtime) := blk_cell H.out 5
  go_wp2_with fail
  refine (Q7.out _).mono ?_
  rintro e w2 ⟨rfl, hb2⟩
  replace H := Aside0.mk ((hb2.block _ (blk_lt H.out)).trans H.out)
  replace HB0 := Aside0.mk (below_next HB0.out hb2)
  clear hb2
  clear c7
  cases b7
  · go_wp2_with fail
    go_ret
    exact ⟨by rw [HR.out]; simp, HB0.out⟩
  go_wp2_with fail
  go_ret
  exact ⟨by rw [HR.out]; simp, HB0.out⟩
end Go.Proofs.YtpmiddhdgidimaaGreatDoor
namespace Go.Proofs.YtpmiddhdgidimaaGreatDoor
open Go.RowKit Go.Proofs.YtpmiddhdgidimaaGreatDoorW.PrintWords

theorem split_hit {S : List UInt8} (h : ¬ S.length ≤ 100) (a : Nat) (ha : a + 1 < S.length) (hno : ∀ j, j < a → ¬ (S.getD j 0 = 47 ∧ S.length ≤ j + 101)) (h1 : S.getD a 0 = 47) (h2 : S.length ≤ a + 101) :
    splitT S = if a < 1 ∨ 155 < a then ([], [], false) else (S.take a, S.drop (a + 1), true) := by
  unfold splitT
  rw [if_neg h]
  obtain ⟨k, hk⟩ : ∃ k, S.length - 101 = k := ⟨_, rfl⟩
  rw [hk]
  obtain ⟨q, hq⟩ : ∃ q, Lib.indexByte (S.drop k) 47 = q := ⟨_, rfl⟩
  have hge := Lib.indexByte_ge (S.drop k) 47
  rw [hq] at hge
  simp only [hq]
  have hga : S[a]? = some (S.getD a 0) := by rw [List.getD_eq_getElem?_getD, List.getElem?_eq_getElem (by omega)]; rfl
  by_cases hn : q < 0
  · exfalso
    have hq1 : q = -1 := by omega
    rw [hq1] at hq
    have := Lib.indexByte_none hq (a - k)
    rw [List.getElem?_drop, show k + (a - k) = a by omega, hga, h1] at this
    exact this rfl
  · rw [if_neg hn]
    obtain ⟨n, rfl⟩ : ∃ n : Nat, q = n := ⟨q.toNat, by omega⟩
    rw [Int.toNat_natCast]
    have hf := Lib.indexByte_some hq
    have h3 := hf.1
    rw [List.getElem?_drop] at h3
    have hlt : k + n < S.length := (List.getElem?_eq_some_iff.1 h3).1
    have hle : ¬ a < n + k := by
      intro hl
      have := hf.2 (a - k) (by omega)
      rw [List.getElem?_drop, show k + (a - k) = a by omega, hga, h1] at this
      exact this rfl
    have hge2 : ¬ n + k < a := by
      intro hl
      apply hno (n + k) hl
      refine ⟨?_, by omega⟩
      rw [List.getD_eq_getElem?_getD, show n + k = k + n by omega, h3]
      rfl
    obtain rfl : a = n + k := by omega
    by_cases hc : n + k < 1 ∨ 155 < n + k
    · rw [if_pos hc, if_pos (by omega)]
    · rw [if_neg hc, if_neg (by omega)]
theorem split_end {S : List UInt8} (h : ¬ S.length ≤ 100) (a : Nat) (ha : a + 1 = S.length) (hno : ∀ j, j < a → ¬ (S.getD j 0 = 47 ∧ S.length ≤ j + 101)) : splitT S = ([], [], false) := by
  unfold splitT
  rw [if_neg h]
  obtain ⟨k, hk⟩ : ∃ k, S.length - 101 = k := ⟨_, rfl⟩
  rw [hk]
  obtain ⟨q, hq⟩ : ∃ q, Lib.indexByte (S.drop k) 47 = q := ⟨_, rfl⟩
  have hge := Lib.indexByte_ge (S.drop k) 47
  rw [hq] at hge
  simp only [hq]
  by_cases hn : q < 0
  · rw [if_pos hn]
  · rw [if_neg hn]
    obtain ⟨n, rfl⟩ : ∃ n : Nat, q = n := ⟨q.toNat, by omega⟩
    rw [Int.toNat_natCast]
    have h3 := (Lib.indexByte_some hq).1
    rw [List.getElem?_drop] at h3
    have hlt : k + n < S.length := (List.getElem?_eq_some_iff.1 h3).1
    have hge2 : ¬ n + k < a := by
      intro hl
      apply hno (n + k) hl
      refine ⟨?_, by omega⟩
      rw [List.getD_eq_getElem?_getD, show n + k = k + n by omega, h3]
      rfl
    rw [if_pos (by omega)]
/-- The reference's answer, as a struct. -/
def partsV (p : List UInt8) : Value := .agg #[.string (mkS (splitT p).1), .string (mkS (splitT p).2.1), .bool (splitT p).2.2]
theorem split_res (p : Nat) (x0 x1 x2 : Value) (tmps : Array Value) (W : World) (t8 : tmps.getD 2 undef = .pointer (some ⟨p, 0, none⟩)) (H : W.heap[p]? = some (.cells #[x0, x1, x2] 34)) :
    (results Tryz.f8 tmps).run Tryz.prog W = .ok (.agg #[x0, x1, x2]) W := by
  have c0 : W.cell? ⟨p, 0, none⟩ = some x0 := blk_cell H 0
  have c1 : W.cell? ⟨p, 1, none⟩ = some x1 := blk_cell H 1
  have c2 : W.cell? ⟨p, 2, none⟩ = some x2 := blk_cell H 2
  clear H
  replace t8 : tmps[2]?.getD undef = .pointer (some ⟨p, 0, none⟩) := by simpa using t8
  simp only [results, Tryz.results8]
  simp [Sem.run_bind, Result.andThen, t8, go_sem, c0, c1, c2]
set_option maxHeartbeats 4000000 in
set_option maxRecDepth 100000 in
theorem rSplit_any (S : List UInt8) (w : World) (hp : S.length ≤ 1000000) :
    Calls Tryz.prog 8 #[.string (mkS S)] w fun e w' => e = .returned (partsV S) ∧ Below w.heap.size w w' := by
  have H := Aside0.mk (heap_alloc_new w (.cells #[.string ⟨#[]⟩, .string ⟨#[]⟩, .bool false] 34))
  have HB := Aside0.mk (below_alloc (Below.refl w.heap.size w) (.cells #[.string ⟨#[]⟩, .string ⟨#[]⟩, .bool false] 34))
  obtain ⟨r, hr⟩ : ∃ r, r = partsV S := ⟨_, rfl⟩
  rw [← hr]
  unfold partsV at hr
  have HR := Aside0.mk hr
  clear hr
  by_cases h : S.length ≤ 100
  · have h' : (S.length : Int) ≤ 100 := by omega
    have HR2 := Aside0.mk (show r = .agg #[.string ⟨#[]⟩, .string (mkS S), .bool true] by rw [HR.out]; unfold splitT; rw [if_pos h]; rfl)
    clear HR
    go_enter Tryz.func8, Tryz.ntmps8
    go_wp2_with fail
    refine bodyPost_ret (split_res w.heap.size _ _ _ _ _ rfl (heap_alloc_new w _)) rfl ?_
    exact ⟨by rw [HR2.out], below_alloc (Below.refl _ _) _⟩
  · have h' : ¬ (S.length : Int) ≤ 100 := by omega
    go_enter Tryz.func8, Tryz.ntmps8
    go_wp2_with fail
    obtain ⟨W, hW⟩ : ∃ W, W = w.alloc (.cells #[.string ⟨#[]⟩, .string ⟨#[]⟩, .bool false] 34) := ⟨_, rfl⟩
    rw [← hW] at H HB ⊢
    clear hW
    go_loopw [3] (fun v wr => ∃ i : Nat, i < S.length ∧ v = .int .i64 (i : Int) ∧ wr = W ∧ Aside0 (∀ j, j < i → ¬ (S.getD j 0 = 47 ∧ S.length ≤ j + 101))) (fun v _ => S.length - (intOf v).toNat)
    case atStart => exact ⟨0, by omega, rfl, rfl, ⟨fun j hj => by omega⟩⟩
    case round =>
      obtain ⟨a, ha, rfl, rfl, hno⟩ := hrel
      have c0 : wr.cell? ⟨w.heap.size, 0, none⟩ = some (.string ⟨#[]⟩) := blk_cell H.out 0
      have c1 : wr.cell? ⟨w.heap.size, 1, none⟩ = some (.string ⟨#[]⟩) := blk_cell H.out 1
      have c2 : wr.cell? ⟨w.heap.size, 2, none⟩ = some (.bool false) := blk_cell H.out 2
      have f0 := blk_frozen H.out 0
      have f1 := blk_frozen H.out 1
      have f2 := blk_frozen H.out 2
      have lh := blk_lt H.out
      by_cases hend : S.length ≤ a + 1
      · have v1 : ¬ (a : Int) + 1 < (S.length : Int) := by omega
        have HR2 := Aside0.mk (show r = .agg #[.string ⟨#[]⟩, .string ⟨#[]⟩, .bool false] by rw [HR.out, split_end h a (by omega) hno.out]; rfl)
        go_wp2_with fail
        have a1 := blk_hit (i := 0) (v := .string ⟨#[]⟩) H.out
        have a2 := blk_hit (i := 1) (v := .string ⟨#[]⟩) a1
        have a3 := blk_hit (i := 2) (v := .bool false) a2
        simp only [List.setIfInBounds_toArray, List.set_cons_zero, List.set_cons_succ] at a3
        refine bodyPost_ret (split_res w.heap.size _ _ _ _ _ rfl a3) rfl ?_
        exact ⟨by rw [HR2.out], Below.setCell (Below.setCell (Below.setCell HB.out (Nat.le_refl _) _) (Nat.le_refl _) _) (Nat.le_refl _) _⟩
      · have v1 : (a : Int) + 1 < (S.length : Int) := by omega
        have v0 : (a : Int) < (S.length : Int) := by omega
        have w1' : IntKind.i64.wrap ((S.length : Int) - a) = (S.length : Int) - a := by rw [IntKind.wrap_i64]; omega
        have w2' : IntKind.i64.wrap ((S.length : Int) - a - 1) = (S.length : Int) - a - 1 := by rw [IntKind.wrap_i64]; omega
        have hb0 := mkS_at ha
        have HHIT := Aside0.mk (split_hit h a (by omega) hno.out)
        have HNEXT := Aside0.mk (fun (h : ¬ (S.getD a 0 = 47 ∧ S.length ≤ a + 101)) => show ∀ j, j < a + 1 → ¬ (S.getD j 0 = 47 ∧ S.length ≤ j + 101) from fun j hj => by
          rcases Nat.lt_succ_iff_lt_or_eq.1 hj with h' | rfl
          · exact hno.out j h'
          · exact h)
        generalize S.getD a 0 = b at *
        by_cases hb : b = 47
        · subst hb
          by_cases h100 : S.length ≤ a + 101
          · have u5 : (S.length : Int) - a - 1 ≤ 100 := by omega
            have HH := Aside0.mk (HHIT.out rfl h100)
            by_cases hz : a < 1 ∨ 155 < a
            · have HR2 := Aside0.mk (show r = .agg #[.string ⟨#[]⟩, .string ⟨#[]⟩, .bool false] by rw [HR.out, HH.out, if_pos hz]; rfl)
              have hz2 : (a = 0) ∨ (¬ (a : Int) = 0 ∧ (155 : Int) < a) := by omega
              rcases hz2 with rfl | ⟨z1, z2⟩
              all_goals
                go_wp2_with fail
                have a1 := blk_hit (i := 0) (v := .string ⟨#[]⟩) H.out
                have a2 := blk_hit (i := 1) (v := .string ⟨#[]⟩) a1
                have a3 := blk_hit (i := 2) (v := .bool false) a2
                simp only [List.setIfInBounds_toArray, List.set_cons_zero, List.set_cons_succ] at a3
                refine bodyPost_ret (split_res w.heap.size _ _ _ _ _ rfl a3) rfl ?_
                exact ⟨by rw [HR2.out], Below.setCell (Below.setCell (Below.setCell HB.out (Nat.le_refl _) _) (Nat.le_refl _) _) (Nat.le_refl _) _⟩
            · have x1 : (mkS S).extract 0 a = mkS (S.take a) := by rw [extract_mkS, List.drop_zero, Nat.sub_zero]
              have x2 : (mkS S).extract (a + 1) S.length = mkS (S.drop (a + 1)) := by rw [extract_mkS, List.take_of_length_le (by rw [List.length_drop]; omega)]
              have HR2 := Aside0.mk (show r = .agg #[.string (mkS (S.take a)), .string (mkS (S.drop (a + 1))), .bool true] by rw [HR.out, HH.out, if_neg hz])
              have z1 : ¬ (a : Int) = 0 := by omega
              have z2 : ¬ (155 : Int) < a := by omega
              go_wp2_with fail
              have HD : wr.drew.heap[w.heap.size]? = some (.cells #[.string ⟨#[]⟩, .string ⟨#[]⟩, .bool false] 34) := H.out
              have BD := Aside0.mk (below_drew HB.out)
              have d0 : wr.drew.cell? ⟨w.heap.size, 0, none⟩ = some (.string ⟨#[]⟩) := blk_cell HD 0
              have d1 : wr.drew.cell? ⟨w.heap.size, 1, none⟩ = some (.string ⟨#[]⟩) := blk_cell HD 1
              have d2 : wr.drew.cell? ⟨w.heap.size, 2, none⟩ = some (.bool false) := blk_cell HD 2
              have g0 := blk_frozen HD 0
              have g1 := blk_frozen HD 1
              have g2 := blk_frozen HD 2
              have gh := blk_lt HD
              go_region
              go_wp2_with fail
              have a1 := blk_hit (i := 0) (v := .string (mkS (S.take a))) HD
              have a2 := blk_hit (i := 1) (v := .string (mkS (S.drop (a + 1)))) a1
              have a3 := blk_hit (i := 2) (v := .bool true) a2
              simp only [List.setIfInBounds_toArray, List.set_cons_zero, List.set_cons_succ] at a3
              refine bodyPost_ret (split_res w.heap.size _ _ _ _ _ rfl a3) rfl ?_
              exact ⟨by rw [HR2.out], Below.setCell (Below.setCell (Below.setCell BD.out (Nat.le_refl _) _) (Nat.le_refl _) _) (Nat.le_refl _) _⟩
          · have u5 : ¬ (S.length : Int) - a - 1 ≤ 100 := by omega
            have HN2 := Aside0.mk (HNEXT.out (fun h => h100 h.2))
            go_wp2_with fail
            exact ⟨⟨a + 1, by omega, by go_num, trivial, HN2⟩, by simp [intOf]; omega⟩
        · have e0 : ((b.toNat : Int) == 47) = false := by
            have : b.toNat ≠ 47 := fun h => hb (UInt8.toNat_inj.1 h)
            rw [beq_eq_false_iff_ne]; omega
          have e1 : ¬ ((b.toNat : Int) = 47) := by
            have : b.toNat ≠ 47 := fun h => hb (UInt8.toNat_inj.1 h)
            omega
          have HN2 := Aside0.mk (HNEXT.out (fun h => hb h.1))
          go_wp2_with fail
          exact ⟨⟨a + 1, by omega, by go_num, trivial, HN2⟩, by simp [intOf]; omega⟩
end Go.Proofs.YtpmiddhdgidimaaGreatDoor
