/- The reference's Octal. -/
import Derived.Test.YtpmiddhdgidimaaDoorHeadPut
import Derived.Test.YtpmiddhdgidimaaDoorHeadCatch
import Derived.Test.YtpmiddhdgidimaaDoorZeros
set_option linter.unusedVariables false
set_option linter.unusedSimpArgs false
namespace Go.Proofs.YtpmiddhdgidimaaDoor
open Go.RowKit Go.Proofs.YtpmiddhdgidimaaDoorW.PrintWords

theorem octD_front (n : Nat) : ∀ k, octD (k + 1) n = UInt8.ofNat (48 + n / 8 ^ k % 8) :: octD k n := by
  intro k
  induction k generalizing n with
  | zero => simp [octD]
  | succ k ih =>
    rw [octD, ih (n / 8), octD, Nat.div_div_eq_div_mul, ← Nat.pow_succ', List.cons_append]
def saidR (o : Option (List UInt8)) : Value := match o with
  | some l => .agg #[.string (mkS l), .bool true]
  | none => .agg #[.string ⟨#[]⟩, .bool false]
theorem octal_res (p : Nat) (x0 x1 : Value) (tmps : Array Value) (W : World) (t8 : tmps.getD 4 undef = .pointer (some ⟨p, 0, none⟩)) (H : W.heap[p]? = some (.cells #[x0, x1] 38)) :
    (results Tryd.f29 tmps).run Tryd.prog W = .ok (.agg #[x0, x1]) W := by
  have c0 : W.cell? ⟨p, 0, none⟩ = some x0 := blk_cell H 0
  have c1 : W.cell? ⟨p, 1, none⟩ = some x1 := blk_cell H 1
  clear H
  replace t8 : tmps[4]?.getD undef = .pointer (some ⟨p, 0, none⟩) := by simpa using t8
  simp only [results, Tryd.results29]
  simp [Sem.run_bind, Result.andThen, t8, go_sem, c0, c1]
theorem octOk_ge {wd n j : Nat} (hj : wd ≤ j) (hw : 0 < wd) (hp : 0 < n / 8 ^ (j - 1)) : octOk wd (n : Int) = false := by
  have h1 : 8 ^ (j - 1) ≤ n := by
    rcases Nat.lt_or_ge n (8 ^ (j - 1)) with h | h
    · rw [Nat.div_eq_of_lt h] at hp; omega
    · exact h
  have h2 : 8 ^ (wd - 1) ≤ 8 ^ (j - 1) := Nat.pow_le_pow_right (by decide) (by omega)
  unfold octOk
  have : ¬ (n : Int) < ((8 ^ (wd - 1) : Nat) : Int) := by omega
  simp only [this, decide_false, Bool.and_false]
theorem octOk_lt {wd n : Nat} (hp : n / 8 ^ (wd - 1) = 0) : octOk wd (n : Int) = true := by
  have h1 : n < 8 ^ (wd - 1) := by
    rcases Nat.lt_or_ge n (8 ^ (wd - 1)) with h | h
    · exact h
    · have := Nat.div_pos h (Nat.pow_pos (by decide)); omega
  unfold octOk
  have h2 : (n : Int) < ((8 ^ (wd - 1) : Nat) : Int) := by omega
  have h3 : (0 : Int) ≤ n := by omega
  simp only [h2, h3, decide_true, Bool.and_self]
set_option maxHeartbeats 4000000 in
set_option maxRecDepth 100000 in
theorem rOctal_neg (n : Int) (wd : Nat) (w : World) (hw : wd = 8 ∨ wd = 12) (hn : n < 0) :
    Calls Tryd.prog 29 #[.int .i64 n, .int .i64 (wd : Int)] w fun e w' => e = .returned (saidR none) ∧ Below w.heap.size w w' := by
  have H := heap_alloc_new w (.cells #[.string ⟨#[]⟩, .bool false] 38)
  rcases hw with rfl | rfl
  all_goals
    go_enter Tryd.func29, Tryd.ntmps29
    go_wp2_with fail
    refine bodyPost_ret (octal_res w.heap.size _ _ _ _ rfl H) rfl ?_
    exact ⟨rfl, below_alloc (Below.refl _ _) _⟩
def strLen : Value → Nat | .string s => s.size | _ => 0
theorem j_bound {n j : Nat} (hp : 0 < n / 8 ^ j) (hn : n ≤ 9223372036854775807) : j ≤ 20 := by
  rcases Nat.lt_or_ge 20 j with h | h
  · have h1 : 8 ^ 21 ≤ 8 ^ j := Nat.pow_le_pow_right (by decide) h
    have h2 : n < 8 ^ 21 := Nat.lt_of_le_of_lt hn (by decide)
    rw [Nat.div_eq_of_lt (Nat.lt_of_lt_of_le h2 h1)] at hp
    omega
  · exact h
set_option maxHeartbeats 4000000 in
set_option maxRecDepth 100000 in
theorem rOctal_pos (n : Nat) (wd : Nat) (w : World) (hw : wd = 8 ∨ wd = 12) (hn : n ≤ 9223372036854775807) :
    Calls Tryd.prog 29 #[.int .i64 (n : Int), .int .i64 (wd : Int)] w fun e w' => e = .returned (saidR (if octOk wd n = true then some (octL wd n) else none)) ∧ Below w.heap.size w w' := by
  have q1 : ¬ (n : Int) < 0 := by omega
  have H := Aside0.mk (heap_alloc_new w (.cells #[.string ⟨#[]⟩, .bool false] 38))
  have HB0 := Aside0.mk (below_alloc (Below.refl w.heap.size w) (.cells #[.string ⟨#[]⟩, .bool false] 38))
  have HN := Aside0.mk hn
  clear hn
  obtain ⟨v, hv⟩ : ∃ v, v = wd := ⟨_, rfl⟩
  have hv2 : v = 8 ∨ v = 12 := by omega
  have HGE := Aside0.mk (fun j (hj : wd ≤ j) (hp : 0 < n / 8 ^ (j - 1)) => octOk_ge (n := n) hj (by omega) hp)
  have HLT := Aside0.mk (octOk_lt (wd := wd) (n := n))
  rw [← hv] at HGE HLT ⊢
  obtain ⟨res, hres⟩ : ∃ r, r = saidR (if octOk v n = true then some (octL v n) else none) := ⟨_, rfl⟩
  rw [← hres]
  have HRES := Aside0.mk hres
  clear hres
  clear hw hv
  rcases hv2 with rfl | rfl
  all_goals
    go_enter Tryd.func29, Tryd.ntmps29
    go_wp2_with fail
  · go_loopw [0, 5] (fun nv sv wr => ∃ j m : Nat, j ≤ 22 ∧ m = n / 8 ^ j ∧ nv = .int .i64 (m : Int) ∧ sv = .string (mkS (octD j n)) ∧ Aside0 (j ≤ 7 ∨ 0 < n / 8 ^ (j - 1)) ∧ Aside0 (wr.heap[w.heap.size]? = some (.cells #[.string ⟨#[]⟩, .bool false] 38)) ∧ Aside0 (Below w.heap.size w wr)) (fun nv sv _ => (intOf nv).toNat + (7 - strLen sv))
    case atStart => exact ⟨0, n, by omega, by simp, rfl, rfl, ⟨.inl (by omega)⟩, H, HB0⟩
    case round =>
      obtain ⟨j, m, hj22, hm, rfl, rfl, HJ, HH, HB⟩ := hrel
      have hol : (octD j n).length = j := octD_length j n
      have hfr := octD_front n j
      rw [← hm] at hfr
      have hnext : m / 8 = n / 8 ^ (j + 1) := by rw [hm, Nat.div_div_eq_div_mul, ← Nat.pow_succ]
      have hjb := fun h : 0 < m => j_bound (n := n) (j := j) (hm ▸ h) HN.out
      have HJN : Aside0 (0 < m ∨ j < 7 → j + 1 ≤ 7 ∨ 0 < n / 8 ^ (j + 1 - 1)) := ⟨fun h => by
        rcases h with h | h
        · right; rw [Nat.add_sub_cancel, ← hm]; exact h
        · left; omega⟩
      have HM := Aside0.mk hm
      have HNX := Aside0.mk hnext
      have hm63 : m ≤ 9223372036854775807 := by rw [hm]; exact Nat.le_trans (Nat.div_le_self _ _) HN.out
      by_cases hc : 0 < m ∨ j < 7
      · have HJ2 := Aside0.mk (HJN.out hc)
        have HJ22 : Aside0 (j + 1 ≤ 22) := ⟨by rcases hc with h | h; have := hjb h; omega; omega⟩
        obtain ⟨d, hd⟩ : ∃ d, m % 8 = d := ⟨_, rfl⟩
        have hd8 : d < 8 := by omega
        rw [hd] at hfr
        obtain ⟨b, hb⟩ : ∃ b : UInt8, UInt8.ofNat (48 + d) = b := ⟨_, rfl⟩
        have hbn : (b.toNat : Int) = 48 + d := by rw [← hb, UInt8.toNat_ofNat']; omega
        rw [hb] at hfr
        obtain ⟨S, hS⟩ : ∃ S, octD j n = S := ⟨_, rfl⟩
        rw [hS] at hfr hol ⊢
        have HFR := Aside0.mk hfr
        have hcv := one_byte (wr.alloc (.cells #[.int .u8 (b.toNat : Int)] 5)) wr.heap.size b (heap_alloc_new _ _)
        rw [hbn] at hcv
        have hadd := fun W => str_add (P := Tryd.prog) (s := mkS [b]) (t := mkS S) (a := [b]) (b := S) rfl rfl rfl (by simp; omega) W
        have r1 : Int.tmod (m : Int) 8 = (d : Int) := by rw [Int.tmod_eq_emod_of_nonneg (by omega)]; omega
        have r2 : (m : Int) % 8 = (d : Int) := by omega
        have r3 : IntKind.i64.wrap (d : Int) = d := by rw [IntKind.wrap_i64]; omega
        have r4 : IntKind.i64.wrap (48 + (d : Int)) = 48 + d := by rw [IntKind.wrap_i64]; omega
        have r5 : IntKind.u8.wrap (48 + (d : Int)) = 48 + d := by
          have : d = 0 ∨ d = 1 ∨ d = 2 ∨ d = 3 ∨ d = 4 ∨ d = 5 ∨ d = 6 ∨ d = 7 := by omega
          rcases this with rfl | rfl | rfl | rfl | rfl | rfl | rfl | rfl <;> rfl
        obtain ⟨m', hm'⟩ : ∃ m', m / 8 = m' := ⟨_, rfl⟩
        have r6 : Int.tdiv (m : Int) 8 = (m' : Int) := by rw [Int.tdiv_eq_ediv_of_nonneg (by omega)]; omega
        have r7 : (m : Int) / 8 = (m' : Int) := by omega
        have r8 : IntKind.i64.wrap (m' : Int) = m' := by rw [IntKind.wrap_i64]; omega
        have HC := Aside0.mk hc
        have hM : (0 < m ∧ (0 : Int) < m) ∨ (m = 0 ∧ ¬ (0 : Int) < m ∧ (j : Int) < 7) := by omega
        have hms : m' < m ∨ (m = 0 ∧ m' = 0 ∧ j < 7) := by omega
        have HMS := Aside0.mk hms
        have HDD := Aside0.mk hd
        rw [hm'] at HNX
        clear hm hfr hS hd hb hnext hjb hc hM hms hm'
        have hM : (0 : Int) < m ∨ (m = 0 ∧ d = 0 ∧ m' = 0 ∧ (j : Int) < 7) := by have := HC.out; have := HDD.out; have := HMS.out; omega
        rcases hM with t1 | ⟨rfl, rfl, rfl, t2⟩
        · go_wp2_with fail
          exact ⟨⟨j + 1, m', HJ22.out, HNX.out, rfl, by rw [HFR.out], HJ2, ⟨blk_alloc HH.out _⟩, ⟨below_alloc HB.out _⟩⟩, by have := HMS.out; simp [intOf, strLen]; omega⟩
        · rw [show (48 + ((0 : Nat) : Int)) = 48 from rfl] at hcv
          clear r1 r2 r3 r4 r5 r6 r7 r8
          go_wp2_with fail
          exact ⟨⟨j + 1, 0, HJ22.out, HNX.out, rfl, by rw [HFR.out], HJ2, ⟨blk_alloc HH.out _⟩, ⟨below_alloc HB.out _⟩⟩, by have := HMS.out; simp [intOf, strLen]; omega⟩
      · have t1 : ¬ (0 : Int) < m := by omega
        have t2 : ¬ (j : Int) < 7 := by omega
        have hm0 : m = 0 := by omega
        have hjk : 7 ≤ j := by omega
        have c0 : wr.cell? ⟨w.heap.size, 0, none⟩ = some (.string ⟨#[]⟩) := blk_cell HH.out 0
        have c1 : wr.cell? ⟨w.heap.size, 1, none⟩ = some (.bool false) := blk_cell HH.out 1
        have f0 := blk_frozen HH.out 0
        have f1 := blk_frozen HH.out 1
        have lh := blk_lt HH.out
        by_cases hj8 : 8 ≤ j
        · have HR := Aside0.mk (show res = saidR none by rw [HRES.out, HGE.out j hj8 (by have := HJ.out; omega)]; rfl)
          obtain ⟨S, hS⟩ : ∃ S, octD j n = S := ⟨_, rfl⟩
          rw [hS] at hol ⊢
          have u1 : (8 : Int) ≤ (j : Int) := by omega
          obtain rfl : m = 0 := hm0
          clear hm hfr hnext hjb hc hS hjk hj8 hm63 t1
          clear hj22
          go_wp2_with fail
          have a1 := blk_hit (i := 0) (v := .string ⟨#[]⟩) HH.out
          have a2 := blk_hit (i := 1) (v := .bool false) a1
          simp only [List.setIfInBounds_toArray, List.set_cons_zero, List.set_cons_succ] at a2
          refine bodyPost_ret (octal_res w.heap.size _ _ _ _ rfl a2) rfl ?_
          exact ⟨by rw [HR.out]; rfl, Below.setCell (Below.setCell HB.out (Nat.le_refl _) _) (Nat.le_refl _) _⟩
        · obtain rfl : j = 7 := by omega
          obtain ⟨S, hS⟩ : ∃ S, octD 7 n = S := ⟨_, rfl⟩
          have HR := Aside0.mk (show res = saidR (some (S ++ [0])) by rw [HRES.out, HLT.out (by rw [← hm]; exact hm0), ← hS]; rfl)
          rw [hS] at hol ⊢
          have hadd := fun W => str_add (P := Tryd.prog) (s := mkS S) (t := ⟨#[0]⟩) (a := S) (b := [0]) rfl rfl rfl (by simp; omega) W
          obtain rfl : m = 0 := hm0
          clear hm hfr hnext hjb hc hS hjk hj8 hm63 t1
          go_wp2_with fail
          have a1 := blk_hit (i := 0) (v := .string (mkS (S ++ [0]))) HH.out
          have a2 := blk_hit (i := 1) (v := .bool true) a1
          simp only [List.setIfInBounds_toArray, List.set_cons_zero, List.set_cons_succ] at a2
          refine bodyPost_ret (octal_res w.heap.size _ _ _ _ rfl a2) rfl ?_
          exact ⟨by rw [HR.out]; rfl, Below.setCell (Below.setCell HB.out (Nat.le_refl _) _) (Nat.le_refl _) _⟩
  · go_loopw [0, 5] (fun nv sv wr => ∃ j m : Nat, j ≤ 22 ∧ m = n / 8 ^ j ∧ nv = .int .i64 (m : Int) ∧ sv = .string (mkS (octD j n)) ∧ Aside0 (j ≤ 11 ∨ 0 < n / 8 ^ (j - 1)) ∧ Aside0 (wr.heap[w.heap.size]? = some (.cells #[.string ⟨#[]⟩, .bool false] 38)) ∧ Aside0 (Below w.heap.size w wr)) (fun nv sv _ => (intOf nv).toNat + (11 - strLen sv))
    case atStart => exact ⟨0, n, by omega, by simp, rfl, rfl, ⟨.inl (by omega)⟩, H, HB0⟩
    case round =>
      obtain ⟨j, m, hj22, hm, rfl, rfl, HJ, HH, HB⟩ := hrel
      have hol : (octD j n).length = j := octD_length j n
      have hfr := octD_front n j
      rw [← hm] at hfr
      have hnext : m / 8 = n / 8 ^ (j + 1) := by rw [hm, Nat.div_div_eq_div_mul, ← Nat.pow_succ]
      have hjb := fun h : 0 < m => j_bound (n := n) (j := j) (hm ▸ h) HN.out
      have HJN : Aside0 (0 < m ∨ j < 11 → j + 1 ≤ 11 ∨ 0 < n / 8 ^ (j + 1 - 1)) := ⟨fun h => by
        rcases h with h | h
        · right; rw [Nat.add_sub_cancel, ← hm]; exact h
        · left; omega⟩
      have HM := Aside0.mk hm
      have HNX := Aside0.mk hnext
      have hm63 : m ≤ 9223372036854775807 := by rw [hm]; exact Nat.le_trans (Nat.div_le_self _ _) HN.out
      by_cases hc : 0 < m ∨ j < 11
      · have HJ2 := Aside0.mk (HJN.out hc)
        have HJ22 : Aside0 (j + 1 ≤ 22) := ⟨by rcases hc with h | h; have := hjb h; omega; omega⟩
        obtain ⟨d, hd⟩ : ∃ d, m % 8 = d := ⟨_, rfl⟩
        have hd8 : d < 8 := by omega
        rw [hd] at hfr
        obtain ⟨b, hb⟩ : ∃ b : UInt8, UInt8.ofNat (48 + d) = b := ⟨_, rfl⟩
        have hbn : (b.toNat : Int) = 48 + d := by rw [← hb, UInt8.toNat_ofNat']; omega
        rw [hb] at hfr
        obtain ⟨S, hS⟩ : ∃ S, octD j n = S := ⟨_, rfl⟩
        rw [hS] at hfr hol ⊢
        have HFR := Aside0.mk hfr
        have hcv := one_byte (wr.alloc (.cells #[.int .u8 (b.toNat : Int)] 5)) wr.heap.size b (heap_alloc_new _ _)
        rw [hbn] at hcv
        have hadd := fun W => str_add (P := Tryd.prog) (s := mkS [b]) (t := mkS S) (a := [b]) (b := S) rfl rfl rfl (by simp; omega) W
        have r1 : Int.tmod (m : Int) 8 = (d : Int) := by rw [Int.tmod_eq_emod_of_nonneg (by omega)]; omega
        have r2 : (m : Int) % 8 = (d : Int) := by omega
        have r3 : IntKind.i64.wrap (d : Int) = d := by rw [IntKind.wrap_i64]; omega
        have r4 : IntKind.i64.wrap (48 + (d : Int)) = 48 + d := by rw [IntKind.wrap_i64]; omega
        have r5 : IntKind.u8.wrap (48 + (d : Int)) = 48 + d := by
          have : d = 0 ∨ d = 1 ∨ d = 2 ∨ d = 3 ∨ d = 4 ∨ d = 5 ∨ d = 6 ∨ d = 7 := by omega
          rcases this with rfl | rfl | rfl | rfl | rfl | rfl | rfl | rfl <;> rfl
        obtain ⟨m', hm'⟩ : ∃ m', m / 8 = m' := ⟨_, rfl⟩
        have r6 : Int.tdiv (m : Int) 8 = (m' : Int) := by rw [Int.tdiv_eq_ediv_of_nonneg (by omega)]; omega
        have r7 : (m : Int) / 8 = (m' : Int) := by omega
        have r8 : IntKind.i64.wrap (m' : Int) = m' := by rw [IntKind.wrap_i64]; omega
        have HC := Aside0.mk hc
        have hM : (0 < m ∧ (0 : Int) < m) ∨ (m = 0 ∧ ¬ (0 : Int) < m ∧ (j : Int) < 11) := by omega
        have hms : m' < m ∨ (m = 0 ∧ m' = 0 ∧ j < 11) := by omega
        have HMS := Aside0.mk hms
        have HDD := Aside0.mk hd
        rw [hm'] at HNX
        clear hm hfr hS hd hb hnext hjb hc hM hms hm'
        have hM : (0 : Int) < m ∨ (m = 0 ∧ d = 0 ∧ m' = 0 ∧ (j : Int) < 11) := by have := HC.out; have := HDD.out; have := HMS.out; omega
        rcases hM with t1 | ⟨rfl, rfl, rfl, t2⟩
        · go_wp2_with fail
          exact ⟨⟨j + 1, m', HJ22.out, HNX.out, rfl, by rw [HFR.out], HJ2, ⟨blk_alloc HH.out _⟩, ⟨below_alloc HB.out _⟩⟩, by have := HMS.out; simp [intOf, strLen]; omega⟩
        · rw [show (48 + ((0 : Nat) : Int)) = 48 from rfl] at hcv
          clear r1 r2 r3 r4 r5 r6 r7 r8
          go_wp2_with fail
          exact ⟨⟨j + 1, 0, HJ22.out, HNX.out, rfl, by rw [HFR.out], HJ2, ⟨blk_alloc HH.out _⟩, ⟨below_alloc HB.out _⟩⟩, by have := HMS.out; simp [intOf, strLen]; omega⟩
      · have t1 : ¬ (0 : Int) < m := by omega
        have t2 : ¬ (j : Int) < 11 := by omega
        have hm0 : m = 0 := by omega
        have hjk : 11 ≤ j := by omega
        have c0 : wr.cell? ⟨w.heap.size, 0, none⟩ = some (.string ⟨#[]⟩) := blk_cell HH.out 0
        have c1 : wr.cell? ⟨w.heap.size, 1, none⟩ = some (.bool false) := blk_cell HH.out 1
        have f0 := blk_frozen HH.out 0
        have f1 := blk_frozen HH.out 1
        have lh := blk_lt HH.out
        by_cases hj8 : 12 ≤ j
        · have HR := Aside0.mk (show res = saidR none by rw [HRES.out, HGE.out j hj8 (by have := HJ.out; omega)]; rfl)
          obtain ⟨S, hS⟩ : ∃ S, octD j n = S := ⟨_, rfl⟩
          rw [hS] at hol ⊢
          have u1 : (12 : Int) ≤ (j : Int) := by omega
          obtain rfl : m = 0 := hm0
          clear hm hfr hnext hjb hc hS hjk hj8 hm63 t1
          clear hj22
          go_wp2_with fail
          have a1 := blk_hit (i := 0) (v := .string ⟨#[]⟩) HH.out
          have a2 := blk_hit (i := 1) (v := .bool false) a1
          simp only [List.setIfInBounds_toArray, List.set_cons_zero, List.set_cons_succ] at a2
          refine bodyPost_ret (octal_res w.heap.size _ _ _ _ rfl a2) rfl ?_
          exact ⟨by rw [HR.out]; rfl, Below.setCell (Below.setCell HB.out (Nat.le_refl _) _) (Nat.le_refl _) _⟩
        · obtain rfl : j = 11 := by omega
          obtain ⟨S, hS⟩ : ∃ S, octD 11 n = S := ⟨_, rfl⟩
          have HR := Aside0.mk (show res = saidR (some (S ++ [0])) by rw [HRES.out, HLT.out (by rw [← hm]; exact hm0), ← hS]; rfl)
          rw [hS] at hol ⊢
          have hadd := fun W => str_add (P := Tryd.prog) (s := mkS S) (t := ⟨#[0]⟩) (a := S) (b := [0]) rfl rfl rfl (by simp; omega) W
          obtain rfl : m = 0 := hm0
          clear hm hfr hnext hjb hc hS hjk hj8 hm63 t1
          go_wp2_with fail
          have a1 := blk_hit (i := 0) (v := .string (mkS (S ++ [0]))) HH.out
          have a2 := blk_hit (i := 1) (v := .bool true) a1
          simp only [List.setIfInBounds_toArray, List.set_cons_zero, List.set_cons_succ] at a2
          refine bodyPost_ret (octal_res w.heap.size _ _ _ _ rfl a2) rfl ?_
          exact ⟨by rw [HR.out]; rfl, Below.setCell (Below.setCell HB.out (Nat.le_refl _) _) (Nat.le_refl _) _⟩
end Go.Proofs.YtpmiddhdgidimaaDoor
