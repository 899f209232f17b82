/- The reference's answers about records are the program's, in plain Lean. -/
import Derived.Test.YtldimdlobgnnpaaDoorPRecRx
import Derived.Test.YtldimdlobgnnpaaDoorRecAll
set_option linter.unusedVariables false
set_option linter.unusedSimpArgs false
namespace Go.Proofs.YtldimdlobgnnpaaDoor
open Go.RowKit Go.Proofs.YtldimdlobgnnpaaDoorW.PrintWords Go.Proofs.YtldimdlobgnnpaaDoor.PRecN Go.Proofs.YtldimdlobgnnpaaDoor.PRecR

theorem getD_at {l : List UInt8} {i : Nat} (h : i < l.length) : l.getD i 0 = l[i] := by rw [List.getD_eq_getElem?_getD, List.getElem?_eq_getElem h]; rfl
theorem has_go (l : List UInt8) (c : UInt8) (hl : l.length ≤ 1000000) : ∀ (d i k : Nat), l.length - i = d → i ≤ l.length → d + 1 ≤ k → gripsackref1_has.l0 k (mkS l) (c.toNat : Int) (i : Int) = some ((l.drop i).contains c)
  | d, i, 0, hd, hi, hk => by omega
  | d, i, k + 1, hd, hi, hk => by
    unfold gripsackref1_has.l0
    rw [size_mkS]
    by_cases h : i < l.length
    · rw [if_pos (by omega), if_pos (by omega), bt_mkS, Int.toNat_natCast, getD_at h, List.drop_eq_getElem_cons h, List.contains_cons]
      by_cases e : l[i] = c
      · rw [if_pos (by rw [e]), e]; simp
      · rw [if_neg (fun h => e (UInt8.toNat_inj.1 (by omega)))]
        have e2 : (c == l[i]) = false := by rw [beq_eq_false_iff_ne]; exact fun h => e h.symm
        rw [e2, Bool.false_or, w64 (by omega), show ((i : Int) + 1) = ((i + 1 : Nat) : Int) by omega]
        cases d with
        | zero => omega
        | succ d => exact has_go l c hl d (i + 1) k (by omega) (by omega) (by omega)
    · rw [if_neg (by omega), List.drop_of_length_le (by omega)]; rfl
theorem has_f (l : List UInt8) (c : UInt8) (k : Nat) (hl : l.length ≤ 1000000) (hk : l.length + 1 ≤ k) : gripsackref1_has.f k (mkS l) (c.toNat : Int) = some (l.contains c) :=
  has_go l c hl l.length 0 k (by omega) (Nat.zero_le _) hk
theorem record_f (k v : List UInt8) (h : k.length + v.length ≤ 1000000) : gripsackref1_record.f (mkS k) (mkS v) = some (mkS (putL k v)) := by
  unfold gripsackref1_record.f
  rw [size_mkS, size_mkS, data_mkS, data_mkS, if_pos h]
theorem mayRec_f (k v : List UInt8) (K : Nat) (h : k.length + v.length ≤ 1000000) (hK : k.length + 1 ≤ K) : gripsackref1_MayRec.f K (mkS k) (mkS v) = some (mayR k v) := by
  unfold gripsackref1_MayRec.f
  rw [show (0 : Int) = (((0 : UInt8).toNat : Nat) : Int) from rfl, show (61 : Int) = (((61 : UInt8).toNat : Nat) : Int) from rfl, has_f k 0 K (by omega) hK, has_f k 61 K (by omega) hK, record_f k v h, size_mkS, size_mkS]
  simp only [Option.bind_some]
  rw [size_mkS]
  have hr := rest_le k v
  rw [restL_len] at hr
  unfold mayR
  cases k with
  | nil => simp
  | cons a r =>
    rw [if_pos (by simp)]
    by_cases h1 : (a :: r).length ≤ 255
    · rw [if_pos (by omega), decide_eq_true h1]
      cases (a :: r).contains 0 with
      | true => simp
      | false =>
        cases (a :: r).contains 61 with
        | true => simp
        | false =>
          by_cases h2 : v.length ≤ 65536
          · rw [if_neg (by decide), if_neg (by decide), if_pos (by omega)]
            simp
            omega
          · rw [if_neg (by decide), if_neg (by decide), if_neg (by omega)]
            have : ¬ (putL (a :: r) v).length ≤ 65536 := by omega
            simp [this]
    · rw [if_neg (by omega), decide_eq_false h1]; simp
theorem putRec_f (k v : List UInt8) (K : Nat) (h : k.length + v.length ≤ 1000000) (hK : k.length + 1 ≤ K) : gripsackref1_PutRec.f K (mkS k) (mkS v) = some (mkS (putR k v)) := by
  unfold gripsackref1_PutRec.f putR
  rw [mayRec_f k v K h hK, record_f k v h]
  simp only [Option.bind_some]
  cases mayR k v with
  | true => rfl
  | false => rfl

/- What bytes at a place are. -/
def gotR (s : List UInt8) (j : Nat) : ByteArray × ByteArray × Int × Int := match readL (s.drop j) with
  | some (k, v, n) => (mkS k, mkS v, ((j + n : Nat) : Int), 0)
  | none => (⟨#[]⟩, ⟨#[]⟩, 0, 4)
theorem take_drop_ext (s : List UInt8) (a b : Nat) : (mkS s).extract a b = mkS ((s.drop a).take (b - a)) := extract_mkS s a b
/-- The last test, where it falls: what is not read is not told. -/
theorem j5_none (s : List UInt8) (j n i x K : Nat) (hs : s.length ≤ 2000) (hr : readL (s.drop j) = none) (hn : j + n ≤ s.length) (hi : j ≤ i) (hin : i + 3 ≤ j + n) (hx : i + 1 ≤ x) (hx2 : x ≤ j + n) (hK : 3000 ≤ K) :
    gripsackref1_GetRec.j5 K (mkS s) (j : Int) (n : Int) (i : Int) (x : Int) = some (⟨#[]⟩, ⟨#[]⟩, 0, 4) := by
  obtain ⟨K, rfl⟩ : ∃ k, K = k + 1 := ⟨K - 1, by omega⟩
  rw [gripsackref1_GetRec.j5]
  rw [size_mkS, w64 (x := (j : Int) + n) (by omega), w64 (x := (j : Int) + n - 1) (by omega), w64 (x := (i : Int) + 1) (by omega), w64 (x := (x : Int) + 1) (by omega)]
  by_cases h : x + 1 ≥ j + n
  · rw [if_pos (by omega)]
  · rw [if_neg (by omega), if_pos (by omega), if_pos (by omega), if_pos (by omega), if_pos (by omega), if_pos (by omega), if_pos (by omega), extract_mkS, extract_mkS]
    rw [putRec_f _ _ K (by simp; omega) (by simp; omega)]
    simp only [Option.bind_some]
    rw [if_pos (by omega), if_pos (by omega), if_pos (by omega), extract_mkS, toList_mkS, toList_mkS, if_neg]
    intro e
    rw [show ((j : Int) + (n : Int)).toNat = j + n by omega, show Int.toNat (j : Int) = j from Int.toNat_natCast j, show Int.toNat (x : Int) = x from Int.toNat_natCast x, show j + n - j = n by omega] at e
    generalize List.take (x - Int.toNat ((i : Int) + 1)) (List.drop (Int.toNat ((i : Int) + 1)) s) = k at e
    generalize List.take (Int.toNat ((j : Int) + (n : Int) - 1) - Int.toNat ((x : Int) + 1)) (List.drop (Int.toNat ((x : Int) + 1)) s) = v at e
    have hm : mayR k v = true := by
      unfold putR at e
      split at e
      · assumption
      · have := congrArg List.length e
        rw [List.length_take, List.length_drop, List.length_nil] at this
        omega
    have e2 : putL k v = (s.drop j).take n := by rw [← e]; unfold putR; rw [if_pos hm]
    have hl : (putL k v).length = n := by rw [e2, List.length_take, List.length_drop]; omega
    have := read_iff.2 ⟨hm, e2, by rw [List.length_drop]; omega, hl⟩
    rw [hr] at this
    cases this
theorem l1_none (s : List UInt8) (j n i : Nat) (hs : s.length ≤ 2000) (hr : readL (s.drop j) = none) (hn : j + n ≤ s.length) (hi : j ≤ i) (hin : i + 3 ≤ j + n) : ∀ (d x K : Nat), j + n - x = d → i + 1 ≤ x → x ≤ j + n → 3001 + d ≤ K →
    gripsackref1_GetRec.l1 K (mkS s) (j : Int) (n : Int) (i : Int) (x : Int) = some (⟨#[]⟩, ⟨#[]⟩, 0, 4)
  | d, x, 0, _, _, _, hK => by omega
  | d, x, K + 1, hd, hx, hx2, hK => by
    rw [gripsackref1_GetRec.l1]
    rw [size_mkS, w64 (x := (j : Int) + n) (by omega), w64 (x := (j : Int) + n - 1) (by omega), w64 (x := (x : Int) + 1) (by omega)]
    split
    · rw [if_pos (by omega), if_pos (by omega)]
      split
      · exact j5_none s j n i x K hs hr hn hi hin hx hx2 (by omega)
      · cases d with
        | zero => omega
        | succ d =>
          rw [show ((x : Int) + 1) = ((x + 1 : Nat) : Int) by omega]
          exact l1_none s j n i hs hr hn hi hin d (x + 1) K (by omega) (by omega) (by omega) (by omega)
    · exact j5_none s j n i x K hs hr hn hi hin hx hx2 (by omega)
theorem j2_none (s : List UInt8) (j n i K : Nat) (hs : s.length ≤ 2000) (hr : readL (s.drop j) = none) (hj : j ≤ s.length) (hi : j ≤ i) (hi2 : i ≤ s.length) (hn : n ≤ 1000000) (hK : 6000 ≤ K) :
    gripsackref1_GetRec.j2 K (mkS s) (j : Int) (n : Int) (i : Int) = some (⟨#[]⟩, ⟨#[]⟩, 0, 4) := by
  obtain ⟨K, rfl⟩ : ∃ k, K = k + 2 := ⟨K - 2, by omega⟩
  rw [gripsackref1_GetRec.j2]
  rw [size_mkS, w64 (x := (s.length : Int) - j) (by omega), w64 (x := (j : Int) + n) (by omega), w64 (x := (i : Int) + 3) (by omega)]
  split
  · rw [gripsackref1_GetRec.j3]
    rw [if_pos rfl]
  · rename_i h1
    rw [gripsackref1_GetRec.j3]
    by_cases h2 : (j : Int) + (n : Int) < (i : Int) + 3
    · rw [decide_eq_true h2, if_pos rfl]
    · rw [decide_eq_false h2, if_neg (by decide), w64 (by omega), show ((i : Int) + 1) = ((i + 1 : Nat) : Int) by omega]
      exact l1_none s j n i hs hr (by omega) hi (by omega) _ (i + 1) K rfl (by omega) (by omega) (by omega)
theorem l0_none (s : List UInt8) (j : Nat) (hs : s.length ≤ 2000) (hr : readL (s.drop j) = none) (hj : j ≤ s.length) : ∀ (d i K n : Nat), s.length - i = d → j ≤ i → i ≤ s.length → n ≤ 655379 → 6001 + d ≤ K →
    gripsackref1_GetRec.l0 K (mkS s) (j : Int) (n : Int) (i : Int) = some (⟨#[]⟩, ⟨#[]⟩, 0, 4)
  | d, i, 0, n, _, _, _, _, hK => by omega
  | d, i, K + 1, n, hd, hi, hi2, hn, hK => by
    have hend := j2_none s j n i K hs hr hj hi hi2 (by omega) (by omega)
    rw [gripsackref1_GetRec.l0]
    rw [size_mkS]
    by_cases h : i < s.length
    · rw [if_pos (by omega), if_pos (by omega), bt_mkS, Int.toNat_natCast]
      have hb := UInt8.toNat_lt (s.getD i 0)
      split
      · split
        · split
          · cases d with
            | zero => omega
            | succ d =>
              have e1 : (((s.getD i 0).toNat : Int) - 48) % 256 = (((s.getD i 0).toNat - 48 : Nat) : Int) := by omega
              rw [w64 (x := (n : Int) * 10) (by omega), w64 (x := (i : Int) + 1) (by omega), e1, w64 (by omega), show ((i : Int) + 1) = ((i + 1 : Nat) : Int) by omega, show (n : Int) * 10 + (((s.getD i 0).toNat - 48 : Nat) : Int) = ((n * 10 + ((s.getD i 0).toNat - 48) : Nat) : Int) by omega]
              exact l0_none s j hs hr hj d (i + 1) K _ (by omega) (by omega) (by omega) (by omega) (by omega)
          · exact hend
        · exact hend
      · exact hend
    · rw [if_neg (by omega)]; exact hend
/- Where a record stands. -/
theorem l0_digits (s : List UInt8) (j N : Nat) (hs : s.length ≤ 2000) (hN : N ≤ 65536) : ∀ (ds rest : List UInt8) (i acc K : Nat), s.drop i = ds ++ 32 :: rest → (∀ x ∈ ds, 48 ≤ x.toNat ∧ x.toNat ≤ 57) → valOf acc ds = N → ds.length + 1 ≤ K →
    gripsackref1_GetRec.l0 K (mkS s) (j : Int) (acc : Int) (i : Int) = gripsackref1_GetRec.j2 (K - ds.length - 1) (mkS s) (j : Int) (N : Int) ((i + ds.length : Nat) : Int)
  | ds, rest, i, acc, 0, _, _, _, hK => by omega
  | [], rest, i, acc, K + 1, hd, _, hv, hK => by
    have hv2 : acc = N := hv
    subst hv2
    have hlt : i < s.length := by
      have := congrArg List.length hd
      rw [List.length_drop] at this
      simp at this; omega
    have hb : s.getD i 0 = 32 := by
      rw [getD_at hlt]
      rw [List.drop_eq_getElem_cons hlt] at hd
      exact (List.cons.inj hd).1
    rw [gripsackref1_GetRec.l0]
    rw [size_mkS, if_pos (by omega), if_pos (by omega), bt_mkS, Int.toNat_natCast, hb, if_neg (by decide)]
    rfl
  | c :: ds, rest, i, acc, K + 1, hd, hc, hv, hK => by
    have hlt : i < s.length := by
      have := congrArg List.length hd
      rw [List.length_drop] at this
      simp at this; omega
    have hd0 := hd
    rw [List.drop_eq_getElem_cons hlt] at hd
    have hb : s.getD i 0 = c := by
      rw [getD_at hlt]
      exact (List.cons.inj hd).1
    have hcc := hc c (by simp)
    have hacc := valOf_ge (c :: ds) acc
    rw [hv] at hacc
    have hv2 : valOf (acc * 10 + (c.toNat - 48)) ds = N := hv
    rw [gripsackref1_GetRec.l0]
    rw [size_mkS, if_pos (by omega), if_pos (by omega), bt_mkS, Int.toNat_natCast, hb, if_pos (by omega), if_pos (by omega), if_pos (by omega)]
    have e1 : ((c.toNat : Int) - 48) % 256 = ((c.toNat - 48 : Nat) : Int) := by omega
    rw [w64 (x := (acc : Int) * 10) (by omega), w64 (x := (i : Int) + 1) (by omega), e1, w64 (by omega), show ((i : Int) + 1) = ((i + 1 : Nat) : Int) by omega, show (acc : Int) * 10 + ((c.toNat - 48 : Nat) : Int) = ((acc * 10 + (c.toNat - 48) : Nat) : Int) by omega]
    rw [l0_digits s j N hs hN ds rest (i + 1) _ K (List.cons.inj hd).2 (fun x hx => hc x (by simp [hx])) hv2 (by simp at hK; omega)]
    rw [List.length_cons, show K + 1 - (ds.length + 1) - 1 = K - ds.length - 1 by omega, show i + 1 + ds.length = i + (ds.length + 1) by omega]
theorem l1_find (s : List UInt8) (j N i : Nat) (hs : s.length ≤ 2000) (hN : j + N ≤ s.length) : ∀ (k rest : List UInt8) (x K : Nat), s.drop x = k ++ 61 :: rest → (61 : UInt8) ∉ k → x + k.length + 1 < j + N → k.length + 1 ≤ K →
    gripsackref1_GetRec.l1 K (mkS s) (j : Int) (N : Int) (i : Int) (x : Int) = gripsackref1_GetRec.j5 (K - k.length - 1) (mkS s) (j : Int) (N : Int) (i : Int) ((x + k.length : Nat) : Int)
  | k, rest, x, 0, _, _, _, hK => by omega
  | [], rest, x, K + 1, hd, _, hx, hK => by
    have hlt : x < s.length := by simp at hx; omega
    have hb : s.getD x 0 = 61 := by
      rw [getD_at hlt]
      rw [List.drop_eq_getElem_cons hlt] at hd
      exact (List.cons.inj hd).1
    simp at hx
    rw [gripsackref1_GetRec.l1]
    rw [size_mkS, w64 (x := (j : Int) + N) (by omega), w64 (x := (j : Int) + N - 1) (by omega), if_pos (by omega), if_pos (by omega), if_pos (by omega), bt_mkS, Int.toNat_natCast, hb, if_pos (by decide)]
    rfl
  | c :: k, rest, x, K + 1, hd, hc, hx, hK => by
    have hlt : x < s.length := by simp at hx; omega
    rw [List.drop_eq_getElem_cons hlt] at hd
    have hb : s.getD x 0 = c := by
      rw [getD_at hlt]
      exact (List.cons.inj hd).1
    have hne : c ≠ 61 := fun e => hc (e ▸ List.mem_cons_self)
    simp at hx
    rw [gripsackref1_GetRec.l1]
    rw [size_mkS, w64 (x := (j : Int) + N) (by omega), w64 (x := (j : Int) + N - 1) (by omega), w64 (x := (x : Int) + 1) (by omega), if_pos (by omega), if_pos (by omega), if_pos (by omega), bt_mkS, Int.toNat_natCast, hb, if_neg (fun h => hne (UInt8.toNat_inj.1 (show c.toNat = 61 by omega)))]
    rw [show ((x : Int) + 1) = ((x + 1 : Nat) : Int) by omega, l1_find s j N i hs hN k rest (x + 1) K (List.cons.inj hd).2 (fun h => hc (List.mem_cons_of_mem _ h)) (by omega) (by simp at hK; omega)]
    rw [List.length_cons, show K + 1 - (k.length + 1) - 1 = K - k.length - 1 by omega, show x + 1 + k.length = x + (k.length + 1) by omega]
theorem getRec_some (s k v : List UInt8) (j n K : Nat) (hs : s.length ≤ 2000) (hj : j < s.length) (hr : readL (s.drop j) = some (k, v, n)) (hK : 16000 ≤ K) :
    gripsackref1_GetRec.l0 K (mkS s) (j : Int) 0 (j : Int) = some (mkS k, mkS v, ((j + n : Nat) : Int), 0) := by
  obtain ⟨h1, h2, h3, h4⟩ := read_sound hr
  obtain ⟨g1, g2, g3, g4⟩ := may_num h1
  obtain ⟨m1, m2, m3, m4, m5⟩ := may_iffR.1 h1
  rw [List.length_drop] at h3
  obtain ⟨ds, hds⟩ : ∃ ds, Lib.decDigits (recNum (restL k v).length) = ds := ⟨_, rfl⟩
  have hN : recNum (restL k v).length = n := by rw [← g3, h4]
  have hdl : ds.length = Lib.nDigits n := by rw [← hds, Lib.decDigits_length, hN]
  have hn5 : Lib.nDigits n ≤ 5 := by
    have := nDigits_mono n 65536 (by omega)
    have e : Lib.nDigits 65536 = 5 := Lib.nDigits_unique 4 65536 (by decide) (by decide)
    omega
  have hsum := (recNum_spec (restL k v).length (by omega)).1
  rw [hN, restL_len] at hsum
  have hput : putL k v = ds ++ 32 :: (k ++ 61 :: (v ++ [10])) := by
    unfold putL; rw [hds]; unfold restL; simp
  have hdrop : s.drop j = ds ++ 32 :: (k ++ 61 :: (v ++ [10])) ++ s.drop (j + n) := by
    rw [← hput, h2, ← List.drop_drop, List.take_append_drop]
  have hd0 : s.drop j = ds ++ 32 :: (k ++ 61 :: (v ++ 10 :: s.drop (j + n))) := by rw [hdrop]; simp
  have hd1 : s.drop (j + ds.length + 1) = k ++ 61 :: (v ++ 10 :: s.drop (j + n)) := by
    rw [Nat.add_assoc, ← List.drop_drop, hd0, ← List.drop_drop, List.drop_left]; rfl
  have hl0 := l0_digits s j n hs (by omega) ds _ j 0 K hd0 (by rw [← hds]; exact num_digit _) (by rw [← hds, hN]; exact valOf_dec n) (by omega)
  rw [show ((0 : Nat) : Int) = 0 from rfl] at hl0
  rw [hl0]
  obtain ⟨K2, hK2⟩ : ∃ k2, K - ds.length - 1 = k2 + 2 := ⟨K - ds.length - 3, by omega⟩
  rw [hK2]
  rw [gripsackref1_GetRec.j2]
  rw [size_mkS, w64 (x := (s.length : Int) - j) (by omega), w64 (x := (j : Int) + n) (by omega), w64 (x := ((j + ds.length : Nat) : Int) + 3) (by omega), if_neg (by omega)]
  rw [gripsackref1_GetRec.j3]
  rw [decide_eq_false (by omega), if_neg (by decide), w64 (by omega), show (((j + ds.length : Nat) : Int) + 1) = ((j + ds.length + 1 : Nat) : Int) by omega]
  rw [l1_find s j n (j + ds.length) hs (by omega) k _ (j + ds.length + 1) K2 hd1 m4 (by omega) (by omega)]
  obtain ⟨K3, hK3⟩ : ∃ k3, K2 - k.length - 1 = k3 + 1 := ⟨K2 - k.length - 2, by omega⟩
  rw [hK3]
  rw [gripsackref1_GetRec.j5]
  obtain ⟨x, hx⟩ : ∃ x, j + ds.length + 1 + k.length = x := ⟨_, rfl⟩
  have hk : (s.drop (j + ds.length + 1)).take (x - (j + ds.length + 1)) = k := by rw [hd1, ← hx]; simp
  have hd2 : s.drop (x + 1) = v ++ 10 :: s.drop (j + n) := by
    rw [← hx, Nat.add_assoc (j + ds.length + 1), ← List.drop_drop, hd1, ← List.drop_drop, List.drop_left]; rfl
  have hv : (s.drop (x + 1)).take (j + n - 1 - (x + 1)) = v := by
    rw [hd2, show j + n - 1 - (x + 1) = v.length by omega, List.take_left]
  rw [hx, size_mkS, w64 (x := (j : Int) + n) (by omega), w64 (x := (j : Int) + n - 1) (by omega), w64 (x := ((j + ds.length : Nat) : Int) + 1) (by omega), w64 (x := (x : Int) + 1) (by omega)]
  rw [if_neg (by omega), if_pos (by omega), if_pos (by omega), if_pos (by omega), if_pos (by omega), if_pos (by omega), if_pos (by omega), extract_mkS, extract_mkS]
  rw [show Int.toNat (((j + ds.length : Nat) : Int) + 1) = j + ds.length + 1 by omega, show Int.toNat ((x : Int) + 1) = x + 1 by omega, Int.toNat_natCast, show Int.toNat ((j : Int) + (n : Int) - 1) = j + n - 1 by omega, hk, hv]
  rw [putRec_f k v K3 (by omega) (by omega)]
  simp only [Option.bind_some]
  rw [if_pos (by omega), if_pos (by omega), if_pos (by omega), extract_mkS, toList_mkS, toList_mkS, if_pos]
  · rw [show ((j : Int) + (n : Int)) = ((j + n : Nat) : Int) by omega]
  · rw [show ((j : Int) + (n : Int)).toNat = j + n by omega, Int.toNat_natCast, show j + n - j = n by omega, ← h2]
    unfold putR
    rw [if_pos h1]
theorem getRec_f (s : List UInt8) (j K : Nat) (hs : s.length ≤ 2000) (hj : j < s.length) (hK : 16001 ≤ K) : gripsackref1_GetRec.f K (mkS s) (j : Int) = some (gotR s j) := by
  obtain ⟨K, rfl⟩ : ∃ k, K = k + 1 := ⟨K - 1, by omega⟩
  unfold gripsackref1_GetRec.f
  rw [size_mkS, if_neg (by omega), decide_eq_false (by omega), gripsackref1_GetRec.j0, size_mkS, if_neg (by decide), if_neg (by omega)]
  unfold gotR
  cases hr : readL (s.drop j) with
  | some x => obtain ⟨k, v, n⟩ := x; exact getRec_some s k v j n K hs hj hr (by omega)
  | none => exact l0_none s j hs hr (by omega) (s.length - j) j K 0 rfl (Nat.le_refl _) (by omega) (by omega) (by omega)
theorem getRec_arg (s : List UInt8) (a : Int) (K : Nat) (h : a < 0 ∨ (0 ≤ a ∧ (s.length : Int) < a)) (hK : 1 ≤ K) : gripsackref1_GetRec.f K (mkS s) a = some (⟨#[]⟩, ⟨#[]⟩, 0, 1) := by
  obtain ⟨K, rfl⟩ : ∃ k, K = k + 1 := ⟨K - 1, by omega⟩
  unfold gripsackref1_GetRec.f
  rw [size_mkS]
  rcases h with h | ⟨h0, h⟩
  · rw [if_pos h, gripsackref1_GetRec.j0, if_pos rfl]
  · rw [if_neg (by omega), decide_eq_true (by omega), gripsackref1_GetRec.j0, if_pos rfl]
theorem getRec_end (s : List UInt8) (K : Nat) (hK : 1 ≤ K) : gripsackref1_GetRec.f K (mkS s) (s.length : Int) = some (⟨#[]⟩, ⟨#[]⟩, 0, 5) := by
  obtain ⟨K, rfl⟩ : ∃ k, K = k + 1 := ⟨K - 1, by omega⟩
  unfold gripsackref1_GetRec.f
  rw [size_mkS, if_neg (by omega), decide_eq_false (by omega), gripsackref1_GetRec.j0, size_mkS, if_neg (by decide), if_pos rfl]
theorem allRec_go (s : List UInt8) (hs : s.length ≤ 2000) : ∀ (d j K : Nat) (acc : List (List UInt8 × List UInt8)), s.length - j = d → j ≤ s.length → acc.length ≤ j → allL s = (allL (s.drop j)).map (acc ++ ·) → 16002 + d ≤ K →
    gripsackref1_AllRecs.l0 K (mkS s) (acc.map toS) (j : Int) = some (allP s) := by
  intro d
  induction d using Nat.strongRecOn with
  | ind d ih =>
    intro j K acc hd hj ha hall hK
    obtain ⟨K, rfl⟩ : ∃ k, K = k + 1 := ⟨K - 1, by omega⟩
    unfold gripsackref1_AllRecs.l0
    rw [size_mkS]
    by_cases h : j < s.length
    · rw [if_pos (by omega), getRec_f s j K hs h (by omega)]
      simp only [Option.bind_some]
      unfold gotR
      cases hr : readL (s.drop j) with
      | none =>
        simp only
        rw [if_neg (by decide)]
        unfold allP
        rw [hall, all_none (by intro e; have := congrArg List.length e; simp at this; omega) hr]
        rfl
      | some x =>
        obtain ⟨k, v, n⟩ := x
        have hn := read_pos hr
        rw [List.length_drop] at hn
        simp only
        rw [if_pos trivial, if_pos (by rw [List.length_map]; omega)]
        have := ih (s.length - (j + n)) (by omega) (j + n) K (acc ++ [(k, v)]) rfl (by omega) (by simp; omega) (all_next hr hall) (by omega)
        rw [List.map_append] at this
        exact this
    · rw [if_neg (by omega)]
      obtain rfl : j = s.length := by omega
      unfold allP
      rw [hall, List.drop_length, all_nil]
      simp
theorem allRec_f (s : List UInt8) (K : Nat) (hs : s.length ≤ 2000) (hK : 20000 ≤ K) : gripsackref1_AllRecs.f K (mkS s) = some (allP s) := by
  unfold gripsackref1_AllRecs.f
  rw [size_mkS, if_neg (by omega)]
  have := allRec_go s hs s.length 0 K [] rfl (Nat.zero_le _) (Nat.le_refl _) (by rw [List.drop_zero]; generalize allL s = q; cases q <;> simp) (by omega)
  exact this
/- Are two lists one? -/
theorem rd_map (l : List (List UInt8 × List UInt8)) (i : Nat) (h : i < l.length) : rd_T25 (l.map toS) (i : Int) = toS l[i] := by
  unfold rd_T25
  rw [Int.toNat_natCast, List.getD_eq_getElem?_getD, List.getElem?_map, List.getElem?_eq_getElem h]
  rfl
theorem same_go (l m : List (List UInt8 × List UInt8)) (hlm : l.length = m.length) (hl : l.length ≤ 1000000) : ∀ (d i K : Nat), l.length - i = d → i ≤ l.length → d + 1 ≤ K →
    gripsackref1_SameRecs.l0 K (l.map toS) (m.map toS) (i : Int) = some (decide (l.drop i = m.drop i))
  | d, i, 0, _, _, hK => by omega
  | d, i, K + 1, hd, hi, hK => by
    unfold gripsackref1_SameRecs.l0
    rw [List.length_map, List.length_map]
    by_cases h : i < l.length
    · rw [if_pos (by omega), if_pos (by omega), if_pos (by omega), rd_map l i h, rd_map m i (by omega)]
      rw [List.drop_eq_getElem_cons h, List.drop_eq_getElem_cons (show i < m.length by omega)]
      unfold toS
      rw [toList_mkS, toList_mkS, toList_mkS, toList_mkS]
      by_cases e : l[i] = m[i]'(by omega)
      · rw [e, if_neg (by simp), w64 (by omega), show ((i : Int) + 1) = ((i + 1 : Nat) : Int) by omega]
        cases d with
        | zero => omega
        | succ d =>
          have := same_go l m hlm hl d (i + 1) K (by omega) (by omega) (by omega)
          unfold toS at this
          rw [this]
          congr 1
          exact decide_eq_decide.2 ⟨fun h => by rw [h], fun h => (List.cons.inj h).2⟩
      · rw [if_pos]
        · have : ¬ (l[i] :: l.drop (i + 1) = m[i]'(by omega) :: m.drop (i + 1)) := fun h => e (List.cons.inj h).1
          rw [decide_eq_false this]
        · have : ¬ (l[i].1 = (m[i]'(by omega)).1 ∧ l[i].2 = (m[i]'(by omega)).2) := fun h => e (Prod.ext h.1 h.2)
          by_cases e1 : l[i].1 = (m[i]'(by omega)).1
          · have e2 : ¬ l[i].2 = (m[i]'(by omega)).2 := fun h => this ⟨e1, h⟩
            have e3 : (l[i].2 == (m[i]'(by omega)).2) = false := by simpa using e2
            rw [e3]; simp
          · have e3 : (l[i].1 == (m[i]'(by omega)).1) = false := by simpa using e1
            rw [e3]; simp
    · rw [if_neg (by omega), List.drop_of_length_le (by omega), List.drop_of_length_le (by omega)]; simp
theorem same_f (l m : List (List UInt8 × List UInt8)) (K : Nat) (hl : l.length ≤ 1000000) (hK : l.length + 1 ≤ K) : gripsackref1_SameRecs.f K (l.map toS) (m.map toS) = some (decide (l = m)) := by
  unfold gripsackref1_SameRecs.f
  rw [List.length_map, List.length_map]
  by_cases h : l.length = m.length
  · rw [if_pos (by omega)]
    have := same_go l m h hl l.length 0 K (by omega) (Nat.zero_le _) hK
    rw [List.drop_zero, List.drop_zero] at this
    exact this
  · rw [if_neg (by omega), decide_eq_false (fun e => h (by rw [e]))]
end Go.Proofs.YtldimdlobgnnpaaDoor
