/- Plain laws of records: a record's bytes, what bytes begin with, all records of bytes. No program in sight. -/
import Derived.Test.YtldimdlobgnnpaaDoorNum
set_option linter.unusedVariables false
set_option linter.unusedSimpArgs false
namespace Go.Proofs.YtldimdlobgnnpaaDoor

/-- What stands behind a record's number. -/
def restL (k v : List UInt8) : List UInt8 := [32] ++ k ++ [61] ++ v ++ [10]
theorem restL_len (k v : List UInt8) : (restL k v).length = k.length + v.length + 3 := by simp [restL]; omega
/-- The least number that counts itself, from so many digits on. -/
def numGo (L : Nat) : Nat → Nat → Nat
  | 0, d => L + d
  | f + 1, d => if Lib.nDigits (L + d) = d then L + d else numGo L f (d + 1)
def recNum (L : Nat) : Nat := numGo L 20 1
theorem numGo_spec (L : Nat) (hL : L < 1000000000000000000) : ∀ f d, f + d = 21 → d ≤ Lib.nDigits (L + d) → Lib.nDigits (numGo L f d) + L = numGo L f d ∧ L + d ≤ numGo L f d ∧ numGo L f d ≤ L + 21
  | 0, d, hf, hd => by
    have h1 : Lib.nDigits (L + d) ≤ 20 := Lib.nDigits_le20 _ (by omega)
    omega
  | f + 1, d, hf, hd => by
    unfold numGo
    split
    · omega
    · have := nDigits_mono (L + d) (L + (d + 1)) (by omega)
      have := numGo_spec L hL f (d + 1) (by omega) (by omega)
      omega
theorem recNum_spec (L : Nat) (hL : L < 1000000000000000000) : Lib.nDigits (recNum L) + L = recNum L ∧ L + 1 ≤ recNum L ∧ recNum L ≤ L + 21 :=
  numGo_spec L hL 20 1 rfl (Lib.nDigits_pos _)
/-- The least: below it none counts itself. -/
theorem numGo_least (L : Nat) : ∀ f d n, L + d ≤ n → n < numGo L f d → Lib.nDigits n + L ≠ n
  | 0, d, n, h1, h2 => by unfold numGo at h2; omega
  | f + 1, d, n, h1, h2 => by
    unfold numGo at h2
    split at h2
    · omega
    · rename_i hne
      by_cases e : n = L + d
      · subst e; omega
      · exact numGo_least L f (d + 1) n (by omega) h2
/-- A record's bytes, whether it may be or not. -/
def putL (k v : List UInt8) : List UInt8 := Lib.decDigits (recNum (restL k v).length) ++ restL k v
theorem putL_len (k v : List UInt8) (h : (restL k v).length < 1000000000000000000) : (putL k v).length = recNum (restL k v).length := by
  unfold putL
  rw [List.length_append, Lib.decDigits_length]
  exact (recNum_spec _ h).1
def mayR (k v : List UInt8) : Bool := !k.isEmpty && decide (k.length ≤ 255) && !k.contains 0 && !k.contains 61 && decide ((putL k v).length ≤ 65536)
def putR (k v : List UInt8) : List UInt8 := if mayR k v = true then putL k v else []
theorem may_iffR {k v : List UInt8} : mayR k v = true ↔ k ≠ [] ∧ k.length ≤ 255 ∧ (0 : UInt8) ∉ k ∧ (61 : UInt8) ∉ k ∧ (putL k v).length ≤ 65536 := by
  unfold mayR
  simp only [Bool.and_eq_true, Bool.not_eq_true', decide_eq_true_eq, List.isEmpty_eq_false_iff, List.contains_eq_mem, decide_eq_false_iff_not]
  constructor
  · rintro ⟨⟨⟨⟨a, b⟩, c⟩, d⟩, e⟩; exact ⟨a, b, c, d, e⟩
  · rintro ⟨a, b, c, d, e⟩; exact ⟨⟨⟨⟨a, b⟩, c⟩, d⟩, e⟩
theorem putL_ne (k v : List UInt8) : putL k v ≠ [] := by
  unfold putL restL
  simp
theorem rest_le (k v : List UInt8) : (restL k v).length ≤ (putL k v).length := by
  unfold putL
  simp
theorem may_num {k v : List UInt8} (h : mayR k v = true) : (restL k v).length ≤ 65536 ∧ recNum (restL k v).length ≤ 65536 ∧ (putL k v).length = recNum (restL k v).length ∧ 4 ≤ (restL k v).length := by
  obtain ⟨h1, h2, h3, h4, h5⟩ := may_iffR.1 h
  have h6 := rest_le k v
  have h7 := putL_len k v (by omega)
  have h8 := restL_len k v
  have h9 : 0 < k.length := List.length_pos_iff.2 h1
  omega

/-- The record that bytes begin with, and how many they are. -/
def readL (s : List UInt8) : Option (List UInt8 × List UInt8 × Nat) :=
  if (cutAt 32 (s.take 8)).2.2 = true ∧ (cutAt 32 (s.take 8)).1 ≠ [] ∧ ∀ x ∈ (cutAt 32 (s.take 8)).1, 48 ≤ x.toNat ∧ x.toNat ≤ 57 then
    match Lib.atoiAll (cutAt 32 (s.take 8)).1 with
    | .ok n =>
      if ((cutAt 32 (s.take 8)).1.length : Int) < n ∧ n ≤ s.length then
        if (cutAt 61 ((s.take n.toNat).drop ((cutAt 32 (s.take 8)).1.length + 1))).2.2 = true ∧ Lib.hasSuffix (cutAt 61 ((s.take n.toNat).drop ((cutAt 32 (s.take 8)).1.length + 1))).2.1 [10] = true then
          if putR (cutAt 61 ((s.take n.toNat).drop ((cutAt 32 (s.take 8)).1.length + 1))).1 (cutAt 61 ((s.take n.toNat).drop ((cutAt 32 (s.take 8)).1.length + 1))).2.1.dropLast = s.take n.toNat then
            some ((cutAt 61 ((s.take n.toNat).drop ((cutAt 32 (s.take 8)).1.length + 1))).1, (cutAt 61 ((s.take n.toNat).drop ((cutAt 32 (s.take 8)).1.length + 1))).2.1.dropLast, n.toNat)
          else none
        else none
      else none
    | _ => none
  else none
/-- What is read is what stands there. -/
theorem read_sound {s k v : List UInt8} {n : Nat} (h : readL s = some (k, v, n)) : mayR k v = true ∧ putL k v = s.take n ∧ n ≤ s.length ∧ (putL k v).length = n := by
  unfold readL at h
  split at h
  · rename_i h1
    split at h
    · rename_i m hm
      split at h
      · rename_i h2
        split at h
        · split at h
          · rename_i h3
            simp only [Option.some.injEq, Prod.mk.injEq] at h
            obtain ⟨rfl, rfl, rfl⟩ := h
            have hne : s.take m.toNat ≠ [] := by
              intro e
              have := congrArg List.length e
              rw [List.length_take, List.length_nil] at this
              omega
            unfold putR at h3
            split at h3
            · rename_i h4
              refine ⟨h4, h3, by omega, ?_⟩
              rw [h3, List.length_take]
              omega
            · exact absurd h3.symm hne
          · cases h
        · cases h
      · cases h
    · cases h
  · cases h
/-- What stands there is read. -/
theorem read_complete {k v : List UInt8} (h : mayR k v = true) (t : List UInt8) : readL (putL k v ++ t) = some (k, v, (putL k v).length) := by
  obtain ⟨h1, h2, h3, h4, h5⟩ := may_iffR.1 h
  obtain ⟨g1, g2, g3, g4⟩ := may_num h
  have hn5 : Lib.nDigits (recNum (restL k v).length) ≤ 5 := by
    have := nDigits_mono (recNum (restL k v).length) 65536 g2
    have e : Lib.nDigits 65536 = 5 := Lib.nDigits_unique 4 65536 (by decide) (by decide)
    omega
  have hdl := Lib.decDigits_length (recNum (restL k v).length)
  have hds := num_digit (recNum (restL k v).length)
  have hdn := num_ne (recNum (restL k v).length)
  have hat := num_atoi (recNum (restL k v).length) (by omega)
  have hsp := (recNum_spec (restL k v).length (by omega)).1
  rw [g3]
  have hput : putL k v = Lib.decDigits (recNum (restL k v).length) ++ restL k v := rfl
  have hmayput : putR k v = putL k v := by unfold putR; rw [if_pos h]
  generalize recNum (restL k v).length = N at *
  have hs : (putL k v ++ t).take 8 = Lib.decDigits N ++ 32 :: ((k ++ [61] ++ v ++ [10] ++ t).take (7 - (Lib.decDigits N).length)) := by
    rw [hput, List.append_assoc, List.take_append]
    rw [List.take_of_length_le (by omega)]
    congr 1
    obtain ⟨j, hj⟩ : ∃ j, 8 - (Lib.decDigits N).length = j + 1 := ⟨7 - (Lib.decDigits N).length, by omega⟩
    rw [hj, show 7 - (Lib.decDigits N).length = j by omega]
    unfold restL
    simp
  have h32 : (32 : UInt8) ∉ Lib.decDigits N := fun hm => by have := hds _ hm; revert this; decide
  have hc := cutAt_hit 32 (Lib.decDigits N) ((k ++ [61] ++ v ++ [10] ++ t).take (7 - (Lib.decDigits N).length)) h32
  rw [← hs] at hc
  have htk : (putL k v ++ t).take N = putL k v := by rw [← g3, List.take_left]
  have hdr : (putL k v).drop ((Lib.decDigits N).length + 1) = k ++ 61 :: (v ++ [10]) := by
    rw [hput, List.drop_append]
    rw [List.drop_of_length_le (by omega)]
    rw [show (Lib.decDigits N).length + 1 - (Lib.decDigits N).length = 1 by omega]
    unfold restL
    simp
  have hc2 := cutAt_hit 61 k (v ++ [10]) h4
  unfold readL
  rw [hc]
  simp only
  rw [if_pos ⟨trivial, hdn, hds⟩, hat]
  simp only [Int.toNat_natCast]
  rw [if_pos ⟨by omega, by rw [List.length_append]; omega⟩, htk, hdr, hc2]
  simp only
  have hsuf : Lib.hasSuffix (v ++ [10]) [10] = true := by
    unfold Lib.hasSuffix
    rw [List.isSuffixOf_iff_suffix]
    exact ⟨v, rfl⟩
  rw [if_pos ⟨trivial, hsuf⟩]
  rw [List.dropLast_concat, if_pos hmayput]
theorem read_iff {s k v : List UInt8} {n : Nat} : readL s = some (k, v, n) ↔ mayR k v = true ∧ putL k v = s.take n ∧ n ≤ s.length ∧ (putL k v).length = n := by
  constructor
  · exact read_sound
  · rintro ⟨h1, h2, h3, rfl⟩
    have := read_complete h1 (s.drop (putL k v).length)
    have e : putL k v ++ s.drop (putL k v).length = s := by
      have := List.take_append_drop (putL k v).length s
      rw [← h2] at this
      exact this
    rw [e] at this
    exact this

/-- All records of bytes: the list, or none where one is not told. -/
def allGo : Nat → List UInt8 → Option (List (List UInt8 × List UInt8))
  | 0, _ => none
  | f + 1, s => if s = [] then some [] else match readL s with
    | none => none
    | some (k, v, n) => match allGo f (s.drop n) with
      | none => none
      | some l => some ((k, v) :: l)
def allL (s : List UInt8) : Option (List (List UInt8 × List UInt8)) := allGo (s.length + 1) s
def joinL (l : List (List UInt8 × List UInt8)) : List UInt8 := (l.map fun x => putR x.1 x.2).flatten
theorem read_pos {s k v : List UInt8} {n : Nat} (h : readL s = some (k, v, n)) : 1 ≤ n ∧ n ≤ s.length := by
  obtain ⟨h1, h2, h3, h4⟩ := read_sound h
  have := (may_num h1).2.2
  have := (recNum_spec (restL k v).length (by have := may_num h1; omega)).2.1
  omega
theorem allGo_fuel : ∀ (f g : Nat) (s : List UInt8), s.length < f → s.length < g → allGo f s = allGo g s
  | 0, g, s, h, _ => by omega
  | f + 1, 0, s, _, h => by omega
  | f + 1, g + 1, s, h1, h2 => by
    unfold allGo
    by_cases e : s = []
    · rw [if_pos e, if_pos e]
    · rw [if_neg e, if_neg e]
      cases hr : readL s with
      | none => rfl
      | some x =>
        obtain ⟨k, v, n⟩ := x
        have := read_pos hr
        simp only
        rw [allGo_fuel f g (s.drop n) (by rw [List.length_drop]; omega) (by rw [List.length_drop]; omega)]
theorem all_nil : allL [] = some [] := rfl
theorem all_none {s : List UInt8} (hs : s ≠ []) (h : readL s = none) : allL s = none := by
  unfold allL allGo
  rw [if_neg hs, h]
theorem all_step {s k v : List UInt8} {n : Nat} (h : readL s = some (k, v, n)) : allL s = match allL (s.drop n) with | none => none | some l => some ((k, v) :: l) := by
  have hp := read_pos h
  have hne : s ≠ [] := fun e => by rw [e] at hp; simp at hp; omega
  unfold allL
  conv => lhs; unfold allGo
  rw [if_neg hne, h]
  simp only
  rw [allGo_fuel s.length ((s.drop n).length + 1) (s.drop n) (by rw [List.length_drop]; omega) (by omega)]
/-- Records are told again by their bytes. -/
theorem all_join : ∀ l : List (List UInt8 × List UInt8), (∀ x ∈ l, mayR x.1 x.2 = true) → allL (joinL l) = some l
  | [], _ => rfl
  | (k, v) :: l, h => by
    have hm := h (k, v) (by simp)
    have hj : joinL ((k, v) :: l) = putL k v ++ joinL l := by
      simp only [joinL, List.map_cons, List.flatten_cons]
      unfold putR
      rw [if_pos hm]
    rw [hj, all_step (read_complete hm (joinL l)), List.drop_left, all_join l (fun x hx => h x (by simp [hx]))]
theorem join_all : ∀ (f : Nat) (s : List UInt8) (l : List (List UInt8 × List UInt8)), allGo f s = some l → joinL l = s ∧ ∀ x ∈ l, mayR x.1 x.2 = true
  | 0, s, l, h => by cases h
  | f + 1, s, l, h => by
    unfold allGo at h
    split at h
    · rename_i e
      injection h with h
      subst h e
      exact ⟨rfl, by simp⟩
    · split at h
      · cases h
      · rename_i k v n hr
        split at h
        · cases h
        · rename_i l' hl'
          injection h with h
          subst h
          obtain ⟨i1, i2⟩ := join_all f _ l' hl'
          obtain ⟨r1, r2, r3, r4⟩ := read_sound hr
          refine ⟨?_, fun x hx => ?_⟩
          · simp only [joinL, List.map_cons, List.flatten_cons] at i1 ⊢
            rw [i1]
            unfold putR
            rw [if_pos r1, r2, List.take_append_drop]
          · rcases List.mem_cons.1 hx with rfl | hx
            · exact r1
            · exact i2 x hx
/-- Cut by a byte, the last record is none. -/
theorem all_cut : ∀ l : List (List UInt8 × List UInt8), l ≠ [] → (∀ x ∈ l, mayR x.1 x.2 = true) → allL (joinL l).dropLast = none
  | [], h, _ => absurd rfl h
  | [(k, v)], _, h => by
    have hm : mayR k v = true := h (k, v) (by simp)
    have hj : joinL [(k, v)] = putL k v := by
      simp only [joinL, List.map_cons, List.map_nil, List.flatten_cons, List.flatten_nil, List.append_nil]
      unfold putR
      rw [if_pos hm]
    rw [hj]
    have hlen := may_num hm
    have hsp := (recNum_spec (restL k v).length (by omega)).2.1
    refine all_none (fun e => ?_) ?_
    · have := congrArg List.length e
      rw [List.length_dropLast, List.length_nil] at this
      omega
    · cases hr : readL (putL k v).dropLast with
      | none => rfl
      | some x =>
        exfalso
        obtain ⟨k', v', n⟩ := x
        obtain ⟨r1, r2, r3, r4⟩ := read_sound hr
        have hc := read_complete r1 ((putL k v).drop n)
        have e : putL k' v' ++ (putL k v).drop n = putL k v := by
          rw [r2, List.dropLast_eq_take, List.take_take, Nat.min_eq_left (by rw [List.length_dropLast] at r3; omega), List.take_append_drop]
        rw [e] at hc
        have hc2 := read_complete hm []
        rw [List.append_nil, hc] at hc2
        injection hc2 with hc2
        have h3 := (Prod.mk.inj (Prod.mk.inj hc2).2).2
        rw [List.length_dropLast] at r3
        omega
  | (k, v) :: y :: l, _, h => by
    have hm := h (k, v) (by simp)
    have hm2 := h y (by simp)
    have hj : joinL ((k, v) :: y :: l) = putL k v ++ joinL (y :: l) := by
      simp only [joinL, List.map_cons, List.flatten_cons]
      rw [show putR k v = putL k v by unfold putR; rw [if_pos hm]]
    have hne : joinL (y :: l) ≠ [] := by
      simp only [joinL, List.map_cons, List.flatten_cons]
      rw [show putR y.1 y.2 = putL y.1 y.2 by unfold putR; rw [if_pos hm2]]
      have := putL_ne y.1 y.2
      simp [this]
    rw [hj, List.dropLast_append_of_ne_nil hne, all_step (read_complete hm _), List.drop_left, all_cut (y :: l) (by simp) (fun x hx => h x (by simp [hx]))]
/- Records whose number is another one. -/
theorem num_no32 (u : Nat) : (32 : UInt8) ∉ Lib.decDigits u := fun hm => by have := num_digit u _ hm; revert this; decide
theorem rest_cons (k v : List UInt8) : restL k v = 32 :: (k ++ [61] ++ v ++ [10]) := by unfold restL; simp
/-- What is read of a number, a blank and more: its number is that one. -/
theorem read_num {ds X k v : List UInt8} {n : Nat} (hd : (32 : UInt8) ∉ ds) (h : readL (ds ++ 32 :: X) = some (k, v, n)) : Lib.decDigits n = ds ∧ recNum (restL k v).length = n ∧ n ≤ (ds ++ 32 :: X).length ∧ mayR k v = true := by
  obtain ⟨h1, h2, h3, h4⟩ := read_sound h
  obtain ⟨g1, g2, g3, g4⟩ := may_num h1
  have e : putL k v ++ (ds ++ 32 :: X).drop n = ds ++ 32 :: X := by rw [h2, List.take_append_drop]
  have e2 : (cutAt 32 (putL k v ++ (ds ++ 32 :: X).drop n)).1 = (cutAt 32 (ds ++ 32 :: X)).1 := by rw [e]
  rw [cutAt_hit 32 ds X hd] at e2
  unfold putL at e2
  rw [rest_cons, List.append_assoc, List.cons_append, cutAt_hit 32 _ _ (num_no32 _), ← rest_cons] at e2
  have hN : recNum (restL k v).length = n := by rw [← g3, h4]
  rw [hN] at e2
  exact ⟨e2, hN, h3, h1⟩
theorem read_longer {k v : List UInt8} (hL : (restL k v).length ≤ 1000000) : readL (Lib.decDigits (recNum (restL k v).length + 1) ++ restL k v) = none := by
  cases h : readL (Lib.decDigits (recNum (restL k v).length + 1) ++ restL k v) with
  | none => rfl
  | some x =>
    exfalso
    obtain ⟨k', v', n⟩ := x
    obtain ⟨sp1, sp2, sp3⟩ := recNum_spec (restL k v).length (by omega)
    generalize hN : recNum (restL k v).length = N at *
    rw [rest_cons k v] at h
    obtain ⟨h1, h2, h3, h4⟩ := read_num (num_no32 _) h
    rw [← rest_cons k v, List.length_append, Lib.decDigits_length] at h3
    have hm := may_num h4
    have hn : n = N + 1 := num_inj (by omega) (by omega) h1
    obtain ⟨q1, q2, q3⟩ := recNum_spec (restL k' v').length (by omega)
    rw [h2, hn] at q1
    have h5 := nDigits_next N
    have h6 := nDigits_mono N (N + 1) (by omega)
    by_cases e : Lib.nDigits (N + 1) = Lib.nDigits N
    · omega
    · have e2 : (restL k' v').length = (restL k v).length := by omega
      rw [e2, hN] at h2
      omega
theorem read_zero {k v : List UInt8} : readL (48 :: putL k v) = none := by
  cases h : readL (48 :: putL k v) with
  | none => rfl
  | some x =>
    exfalso
    obtain ⟨k', v', n⟩ := x
    unfold putL at h
    rw [rest_cons k v, ← List.cons_append] at h
    obtain ⟨h1, h2, h3, h4⟩ := read_num (by
      intro hm
      rcases List.mem_cons.1 hm with hm | hm
      · revert hm; decide
      · exact num_no32 _ hm) h
    have hm := may_num h4
    obtain ⟨c, r, hc, hc2⟩ := num_head n (by have := (recNum_spec (restL k' v').length (by omega)).2.1; omega)
    rw [hc] at h1
    have := (List.cons.inj h1).1
    rw [this] at hc2
    revert hc2; decide
end Go.Proofs.YtldimdlobgnnpaaDoor
