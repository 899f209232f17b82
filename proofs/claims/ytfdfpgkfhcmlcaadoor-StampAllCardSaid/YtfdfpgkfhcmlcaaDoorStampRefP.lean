/- The reference's ParseStamp (as printed) is parseT. -/
import Derived.Test.YtfdfpgkfhcmlcaaDoorPStPx
import Derived.Test.YtfdfpgkfhcmlcaaDoorStampRefT
set_option linter.unusedVariables false
set_option linter.unusedSimpArgs false
namespace Go.Proofs.YtfdfpgkfhcmlcaaDoor
open Go.RowKit Go.Proofs.YtfdfpgkfhcmlcaaDoorW.PrintWords Go.Proofs.YtfdfpgkfhcmlcaaDoor.PStP

def outT (o : Option (Int × Int)) : Int × Int × Bool := match o with | some t => (t.1, t.2, true) | none => (0, 0, false)
theorem mayStampP_f (s n : Int) : PStP.gripsackref1_MayStamp.f s n = some (mayT s n) := mayStamp_f s n
theorem j7_f (x : List UInt8) (k : Nat) (s n : Int) : gripsackref1_ParseStamp.j7 (k + 1) (mkS x) s n = some (outT (isT x (s, n))) := by
  rw [gripsackref1_ParseStamp.j7, mayStampP_f]
  simp only [Option.bind_some]
  unfold isT gripsackref1_TextStamp.f
  cases hm : mayT s n with
  | false => simp [outT, hm]
  | true =>
    simp only [hm, if_true, Option.bind_some, true_and, toList_mkS]
    by_cases h : textT s n = x
    · rw [if_pos h, if_pos h]; rfl
    · rw [if_neg h, if_neg h]; rfl
theorem wrap_eq (x : Int) : wrap64 x = IntKind.i64.wrap x := by rw [IntKind.wrap_i64]; unfold wrap64; omega
theorem j6_f (x : List UInt8) (hx : 0 < x.length) (k : Nat) (sec nano : Int) : gripsackref1_ParseStamp.j6 (k + 2) (mkS x) sec nano = some (outT (isT x (turnT (Lib.hasPrefix x [45]) sec nano))) := by
  rw [gripsackref1_ParseStamp.j6, size_mkS, if_pos (by omega), bt_mkS]
  cases x with
  | nil => simp at hx
  | cons b r =>
    rw [hasPrefix_one]
    simp only [Int.toNat_zero, List.getD_cons_zero]
    unfold turnT
    by_cases hb : b = 45
    · subst hb
      rw [if_pos (by rfl)]
      simp only [beq_self_eq_true, if_true]
      by_cases hn : 0 < nano
      · rw [if_pos hn, if_pos hn, j7_f, wrap_eq, wrap_eq, wrap_eq]
      · rw [if_neg hn, if_neg hn, j7_f, wrap_eq]
    · have h1 : ¬ ((b.toNat : Int) = 45) := by
        intro e
        apply hb
        apply UInt8.toNat_inj.1
        show b.toNat = 45
        omega
      rw [if_neg h1, j7_f]
      simp [hb]
/- The loop over the places of a rest. -/
theorem l1_any (x : List UInt8) (hx : 0 < x.length) (hl : x.length ≤ 30) (sec : Int) (i : Nat) (hi : i ≤ 30) : ∀ (d K c : Nat) (nano : Int), c + d = 10 → d + 3 ≤ K → 1 ≤ c → ∃ t, gripsackref1_ParseStamp.l1 K (mkS x) sec nano (i : Int) (c : Int) = some (outT (isT x t))
  | 0, K, c, nano, hc, hK, _ => by
    obtain ⟨k, rfl⟩ : ∃ k, K = k + 3 := ⟨K - 3, by omega⟩
    rw [gripsackref1_ParseStamp.l1, if_neg (by omega), j6_f x hx]
    exact ⟨_, rfl⟩
  | d + 1, K, c, nano, hc, hK, h1 => by
    obtain ⟨k, rfl⟩ : ∃ k, K = k + 1 := ⟨K - 1, by omega⟩
    have e1 : wrap64 ((i : Int) + (c : Int)) = ((i + c : Nat) : Int) := by rw [w64 (by omega)]; omega
    have e2 : wrap64 ((c : Int) + 1) = ((c + 1 : Nat) : Int) := by rw [w64 (by omega)]; omega
    rw [gripsackref1_ParseStamp.l1, if_pos (by omega), e1, e2, size_mkS]
    split
    · rw [if_pos (by omega)]
      split
      · split
        · exact l1_any x hx hl sec i hi d k (c + 1) _ (by omega) (by omega) (by omega)
        · exact l1_any x hx hl sec i hi d k (c + 1) _ (by omega) (by omega) (by omega)
      · exact l1_any x hx hl sec i hi d k (c + 1) _ (by omega) (by omega) (by omega)
    · exact l1_any x hx hl sec i hi d k (c + 1) _ (by omega) (by omega) (by omega)
theorem j3_any (x : List UInt8) (hx : 0 < x.length) (hl : x.length ≤ 30) (K i : Nat) (sec : Int) (hi : i ≤ 30) (hK : 20 ≤ K) : ∃ t, gripsackref1_ParseStamp.j3 K (mkS x) sec 0 (i : Int) = some (outT (isT x t)) := by
  obtain ⟨k, rfl⟩ : ∃ k, K = k + 4 := ⟨K - 4, by omega⟩
  have h4 : ∀ b, ∃ t, gripsackref1_ParseStamp.j4 (k + 3) (mkS x) sec 0 (i : Int) b = some (outT (isT x t)) := by
    intro b
    rw [gripsackref1_ParseStamp.j4]
    split
    · exact l1_any x hx hl sec i hi 9 (k + 2) 1 0 (by omega) (by omega) (by omega)
    · rw [j6_f x hx]; exact ⟨_, rfl⟩
  rw [gripsackref1_ParseStamp.j3, size_mkS]
  split
  · rw [if_pos (by omega)]; exact h4 _
  · exact h4 _
theorem l0_any (x : List UInt8) (hx : 0 < x.length) (hl : x.length ≤ 30) : ∀ (d K i : Nat) (sec : Int), i + d = x.length → d + 30 ≤ K → ∃ t, gripsackref1_ParseStamp.l0 K (mkS x) sec 0 (i : Int) = some (outT (isT x t))
  | 0, K, i, sec, hi, hK => by
    obtain ⟨k, rfl⟩ : ∃ k, K = k + 1 := ⟨K - 1, by omega⟩
    rw [gripsackref1_ParseStamp.l0, size_mkS, if_neg (by omega)]
    exact j3_any x hx hl k i sec (by omega) (by omega)
  | d + 1, K, i, sec, hi, hK => by
    obtain ⟨k, rfl⟩ : ∃ k, K = k + 1 := ⟨K - 1, by omega⟩
    have e2 : wrap64 ((i : Int) + 1) = ((i + 1 : Nat) : Int) := by rw [w64 (by omega)]; omega
    rw [gripsackref1_ParseStamp.l0, size_mkS, if_pos (by omega), if_pos (by omega), e2]
    split
    · split
      · split
        · exact l0_any x hx hl d k (i + 1) _ (by omega) (by omega)
        · exact j3_any x hx hl k i sec (by omega) (by omega)
      · exact j3_any x hx hl k i sec (by omega) (by omega)
    · exact j3_any x hx hl k i sec (by omega) (by omega)
theorem drop_head {x : List UInt8} {i : Nat} {c : UInt8} {r : List UInt8} (h : x.drop i = c :: r) : i < x.length ∧ x.getD i 0 = c ∧ x.drop (i + 1) = r := by
  have h1 : i < x.length := by
    by_cases e : i < x.length
    · exact e
    · rw [List.drop_eq_nil_of_le (by omega)] at h; cases h
  rw [List.drop_eq_getElem_cons h1] at h
  injection h with h2 h3
  exact ⟨h1, by rw [List.getD_eq_getElem?_getD, List.getElem?_eq_getElem h1]; exact h2, h3⟩
theorem l0_text (x : List UInt8) (hl : x.length ≤ 30) : ∀ (ds rest : List UInt8) (K i sec : Nat), x.drop i = ds ++ rest → i ≤ x.length → (∀ c ∈ ds, 48 ≤ c.toNat ∧ c.toNat ≤ 57) → valOf sec ds ≤ 1099511627776 → (∀ c r, rest = c :: r → c.toNat < 48) → ds.length + 1 ≤ K →
    ∃ K', K = K' + ds.length + 1 ∧ gripsackref1_ParseStamp.l0 K (mkS x) (sec : Int) 0 (i : Int) = gripsackref1_ParseStamp.j3 K' (mkS x) (valOf sec ds : Int) 0 ((i + ds.length : Nat) : Int)
  | [], rest, K, i, sec, hd, hi, _, _, hr, hK => by
    obtain ⟨k, rfl⟩ : ∃ k, K = k + 1 := ⟨K - 1, by simp at hK; omega⟩
    refine ⟨k, rfl, ?_⟩
    rw [gripsackref1_ParseStamp.l0, size_mkS]
    simp only [List.length_nil, Nat.add_zero, valOf, List.foldl_nil]
    cases rest with
    | nil =>
      have : x.length ≤ i := by have := congrArg List.length hd; simp at this; omega
      rw [if_neg (by omega)]
    | cons c r =>
      obtain ⟨h1, h2, _⟩ := drop_head (by simpa using hd)
      have h3 := hr c r rfl
      rw [if_pos (by omega), if_pos (by omega), bt_mkS, Int.toNat_natCast, h2, if_neg (by omega)]
  | c :: ds, rest, K, i, sec, hd, hi, hdig, hv, hr, hK => by
    obtain ⟨k, rfl⟩ : ∃ k, K = k + 1 := ⟨K - 1, by simp at hK; omega⟩
    obtain ⟨h1, h2, h3⟩ := drop_head (by simpa using hd)
    have hc := hdig c (by simp)
    have hv2 : valOf sec (c :: ds) = valOf (sec * 10 + (c.toNat - 48)) ds := rfl
    rw [hv2] at hv ⊢
    have hge := valOf_ge ds (sec * 10 + (c.toNat - 48))
    obtain ⟨K', hk, h⟩ := l0_text x hl ds rest k (i + 1) (sec * 10 + (c.toNat - 48)) h3 (by omega) (fun d hd => hdig d (by simp [hd])) hv hr (by simp at hK; omega)
    refine ⟨K', by simp; omega, ?_⟩
    have E2 := Aside0.mk (show wrap64 ((i : Int) + 1) = ((i + 1 : Nat) : Int) by rw [w64 (by omega)]; omega)
    obtain ⟨S, hS⟩ : ∃ S : Int, S = (sec : Int) := ⟨_, rfl⟩
    rw [← hS]
    have e3 : wrap64 (wrap64 (S * 10) + ((c.toNat : Int) - 48) % 256) = ((sec * 10 + (c.toNat - 48) : Nat) : Int) := by
      rw [w64 (x := S * 10) (by omega), w64 (by omega)]; omega
    have E3 := Aside0.mk e3
    clear e3
    rw [gripsackref1_ParseStamp.l0, size_mkS, if_pos (by omega), if_pos (by omega), E2.out, bt_mkS, Int.toNat_natCast, h2, if_pos (by omega), if_pos (by omega), if_pos (by omega), E3.out, h]
    congr 1
    simp; omega
theorem valOf_snoc0 (l : List UInt8) (c : UInt8) (acc : Nat) : valOf acc (l ++ [c]) = valOf acc l * 10 + (c.toNat - 48) := by
  unfold valOf
  rw [List.foldl_append]
  rfl
theorem valOf_lt : ∀ (k : Nat) (l : List UInt8), l.length = k → (∀ c ∈ l, c.toNat ≤ 57) → valOf 0 l < 10 ^ k
  | 0, l, h, _ => by
    obtain rfl := List.length_eq_zero_iff.1 h
    simp [valOf]
  | k + 1, l, h, hd => by
    rcases List.eq_nil_or_concat l with rfl | ⟨m, c, rfl⟩
    · simp at h
    · rw [List.concat_eq_append] at *
      have ih := valOf_lt k m (by simpa using h) (fun d hd2 => hd d (by simp [hd2]))
      have hc := hd c (by simp)
      rw [valOf_snoc0, Nat.pow_succ]
      omega
theorem padT_at (fs : List UInt8) (hf : fs.length ≤ 9) (c : Nat) (hc : c < 9) : (padT fs).length = 9 ∧ (padT fs).take (c + 1) = (padT fs).take c ++ [if c < fs.length then fs.getD c 0 else 48] := by
  have hl : (padT fs).length = 9 := by unfold padT; simp; omega
  refine ⟨hl, ?_⟩
  rw [List.take_succ_eq_append_getElem (by omega)]
  congr 2
  unfold padT
  split
  · rename_i h
    rw [List.getElem_append_left h, List.getD_eq_getElem?_getD, List.getElem?_eq_getElem h]; rfl
  · rename_i h
    rw [List.getElem_append_right (by omega), List.getElem_replicate]
theorem l1_text (x : List UInt8) (hx : 0 < x.length) (hl : x.length ≤ 30) (sec : Int) (i : Nat) (hi : i ≤ 30) (fs : List UInt8) (hd : x.drop (i + 1) = fs) (hf : fs.length ≤ 9) (hdig : ∀ c ∈ fs, 48 ≤ c.toNat ∧ c.toNat ≤ 57) (hix : i < x.length) :
    ∀ (d K c : Nat), c + d = 9 → d + 5 ≤ K → gripsackref1_ParseStamp.l1 K (mkS x) sec (valOf 0 ((padT fs).take c) : Int) (i : Int) ((c + 1 : Nat) : Int) = some (outT (isT x (turnT (Lib.hasPrefix x [45]) sec (valOf 0 (padT fs) : Int))))
  | 0, K, c, hc, hK => by
    obtain ⟨k, rfl⟩ : ∃ k, K = k + 3 := ⟨K - 3, by omega⟩
    have hpl := (padT_at fs hf 0 (by omega)).1
    rw [gripsackref1_ParseStamp.l1, if_neg (by omega), j6_f x hx, List.take_of_length_le (by omega)]
  | d + 1, K, c, hc, hK => by
    obtain ⟨k, rfl⟩ : ∃ k, K = k + 1 := ⟨K - 1, by omega⟩
    obtain ⟨hpl, hps⟩ := padT_at fs hf c (by omega)
    have ih := l1_text x hx hl sec i hi fs hd hf hdig hix d k (c + 1) (by omega) (by omega)
    have hall : ∀ b ∈ padT fs, b.toNat ≤ 57 := by
      intro b hb
      rcases List.mem_append.1 hb with hb | hb
      · exact (hdig b hb).2
      · rw [List.eq_of_mem_replicate hb]; decide
    have hlt := valOf_lt c ((padT fs).take c) (by simp; omega) (fun b hb => hall b (List.mem_of_mem_take hb))
    have hp : 10 ^ c ≤ 10 ^ 9 := Nat.pow_le_pow_right (by omega) (by omega)
    rw [hps, valOf_snoc0] at ih
    obtain ⟨v, hv⟩ : ∃ v, valOf 0 ((padT fs).take c) = v := ⟨_, rfl⟩
    rw [hv] at ih hlt ⊢
    have hv9 : v < 1000000000 := by have : (10 : Nat) ^ 9 = 1000000000 := by decide
                                    omega
    have E1 := Aside0.mk (show wrap64 ((i : Int) + ((c + 1 : Nat) : Int)) = ((i + (c + 1) : Nat) : Int) by rw [w64 (by omega)]; omega)
    have E2 := Aside0.mk (show wrap64 (((c + 1 : Nat) : Int) + 1) = ((c + 1 + 1 : Nat) : Int) by rw [w64 (by omega)]; omega)
    obtain ⟨Vi, hVi⟩ : ∃ Vi : Int, Vi = (v : Int) := ⟨_, rfl⟩
    obtain ⟨Wi, hWi⟩ : ∃ Wi : Int, Wi = ((v * 10 : Nat) : Int) := ⟨_, rfl⟩
    have E4 := Aside0.mk (show wrap64 (Vi * 10) = Wi by rw [w64 (by omega)]; omega)
    rw [← hVi]
    have hfl : fs.length = x.length - (i + 1) := by rw [← hd]; simp
    rw [gripsackref1_ParseStamp.l1, if_pos (by omega), E1.out, E2.out, size_mkS, E4.out]
    by_cases hcf : c < fs.length
    · have hb : x.getD (i + (c + 1)) 0 = fs.getD c 0 := by
        rw [← hd, List.getD_eq_getElem?_getD, List.getD_eq_getElem?_getD, List.getElem?_drop]
        congr 2
        omega
      have hg : 48 ≤ (fs.getD c 0).toNat ∧ (fs.getD c 0).toNat ≤ 57 := by
        rw [List.getD_eq_getElem?_getD, List.getElem?_eq_getElem hcf]
        exact hdig _ (List.getElem_mem _)
      rw [if_pos hcf] at ih
      rw [if_pos (by omega), if_pos (by omega), bt_mkS, Int.toNat_natCast, hb, if_pos (by omega), if_pos (by omega)]
      have e3 : wrap64 (Wi + (((fs.getD c 0).toNat : Int) - 48) % 256) = ((v * 10 + ((fs.getD c 0).toNat - 48) : Nat) : Int) := by
        rw [w64 (by omega)]; omega
      rw [e3]
      exact ih
    · rw [if_neg hcf] at ih
      rw [if_neg (by omega), hWi]
      simpa using ih
theorem text_short {s n : Int} (h : mayT s n = true) : 0 < (textT s n).length ∧ (textT s n).length ≤ 30 := by
  have h0 := (text_len h).1
  have hw := whole_le h
  have hp := part_lt h
  have h1 := nDigits_mono (wholeT s n) 1099511627776 hw
  have e : Lib.nDigits 1099511627776 = 13 := by simp [Lib.nDigits_big, Lib.nDigits_small]
  have h3 := (pad_frac hp).2
  have h4 : (signT s).length ≤ 1 := by unfold signT; split <;> simp
  refine ⟨h0, ?_⟩
  unfold textT
  rw [List.length_append, List.length_append, Lib.decDigits_length]
  split
  · simp; omega
  · simp only [List.length_cons]; omega
theorem valOf_padded {r : Nat} : valOf 0 (padded r) = r := by
  have h : ∀ (k : Nat) (l : List UInt8), valOf 0 (List.replicate k 48 ++ l) = valOf 0 l := by
    intro k
    induction k with
    | zero => intro l; rfl
    | succ k ih => intro l; rw [List.replicate_succ, List.cons_append]; exact ih l
  unfold padded
  rw [h, valOf_dec]
/-- Behind the digits of a text's whole part. -/
theorem j3_text {s n : Int} (hm : mayT s n = true) (K i : Nat) (x : List UInt8) (hx : textT s n = x) (hd : x.drop i = (if partT s n = 0 then [] else 46 :: fracT (partT s n))) (hi : i ≤ x.length) (hK : 20 ≤ K) :
    gripsackref1_ParseStamp.j3 K (mkS x) (wholeT s n : Int) 0 (i : Int) = some (outT (some (s, n))) := by
  obtain ⟨hs1, hs2⟩ := text_short hm
  rw [hx] at hs1 hs2
  have hp := part_lt hm
  have ht := turn_back hm
  have hpre := (trimPrefix_sign s n).1
  rw [hx] at hpre
  have his : isT x (s, n) = some (s, n) := by unfold isT; rw [if_pos ⟨hm, hx⟩]
  obtain ⟨k, rfl⟩ : ∃ k, K = k + 4 := ⟨K - 4, by omega⟩
  rw [gripsackref1_ParseStamp.j3, size_mkS]
  by_cases hz : partT s n = 0
  · rw [if_pos hz] at hd
    have : x.length ≤ i := by have := congrArg List.length hd; simp at this; omega
    rw [if_neg (by omega), gripsackref1_ParseStamp.j4, if_neg (by decide), j6_f x hs1, hpre]
    rw [hz] at ht
    rw [show ((0 : Nat) : Int) = 0 from rfl] at ht
    rw [ht, his]
  · rw [if_neg hz] at hd
    obtain ⟨h1, h2, h3⟩ := drop_head hd
    obtain ⟨p1, p2⟩ := pad_frac hp
    have hdig : ∀ c ∈ fracT (partT s n), 48 ≤ c.toNat ∧ c.toNat ≤ 57 := by
      intro c hc
      by_cases e : c.toNat < 48 ∨ 57 < c.toNat
      · exact absurd hc (frac_no e)
      · omega
    have hl := l1_text x hs1 hs2 (wholeT s n : Int) i (by omega) (fracT (partT s n)) h3 p2 hdig h1 9 (k + 2) 0 (by omega) (by omega)
    rw [p1, valOf_padded, hpre, ht, his] at hl
    rw [if_pos (by omega), if_pos (by omega), bt_mkS, Int.toNat_natCast, h2, gripsackref1_ParseStamp.j4]
    rw [if_pos (by decide)]
    exact hl
/-- The reference's ParseStamp is parseT. -/
theorem parseR_f (x : List UInt8) (K : Nat) (hK : 100 ≤ K) : gripsackref1_ParseStamp.f K (mkS x) = some (outT (parseT x)) := by
  obtain ⟨k, rfl⟩ : ∃ k, K = k + 2 := ⟨K - 2, by omega⟩
  unfold gripsackref1_ParseStamp.f
  rw [size_mkS]
  by_cases h0 : x.length = 0
  · rw [if_pos (by omega), gripsackref1_ParseStamp.j0, if_pos rfl]
    rw [none_of x (fun s n hm e => by have := (text_short hm).1; rw [e] at this; omega)]
    rfl
  · rw [if_neg (by omega), gripsackref1_ParseStamp.j0]
    by_cases h30 : x.length > 30
    · rw [if_pos (by simp; omega)]
      rw [none_of x (fun s n hm e => by have := (text_short hm).2; rw [e] at this; omega)]
      rfl
    · rw [if_neg (by simp; omega), size_mkS, if_pos (by omega), bt_mkS, Int.toNat_zero, gripsackref1_ParseStamp.j1, gripsackref1_ParseStamp.j1]
      have hany0 := l0_any x (by omega) (by omega) x.length k 0 0 (by omega) (by omega)
      have hany1 := l0_any x (by omega) (by omega) (x.length - 1) k 1 0 (by omega) (by omega)
      have hn0 : ∀ t, parseT x = none → isT x t = none := by
        intro t hp
        cases ht : isT x t with
        | none => rfl
        | some u =>
          obtain ⟨h1, h2⟩ := is_some ht
          have := parse_back h1
          rw [h2, hp] at this
          cases this
      cases hp : parseT x with
      | none =>
        split
        · obtain ⟨t, ht⟩ := hany1
          rw [hn0 t hp] at ht
          exact ht
        · obtain ⟨t, ht⟩ := hany0
          rw [hn0 t hp] at ht
          exact ht
      | some u =>
        obtain ⟨s, n⟩ := u
        obtain ⟨hm, hx⟩ := parse_sound hp
        have hw := whole_le hm
        have hr : ∀ (c : UInt8) (r : List UInt8), (if partT s n = 0 then [] else 46 :: fracT (partT s n)) = c :: r → c.toNat < 48 := by
          intro c r e
          split at e
          · cases e
          · injection e with e1 _; rw [← e1]; decide
        have hv := valOf_dec (wholeT s n)
        have hdl : (Lib.decDigits (wholeT s n)).length ≤ 30 := by
          have := (text_short hm).2
          unfold textT at this
          rw [List.length_append, List.length_append] at this
          omega
        have hpre := (trimPrefix_sign s n).1
        rw [hx, hasPrefix_one] at hpre
        have hparts : x = signT s ++ (Lib.decDigits (wholeT s n) ++ (if partT s n = 0 then [] else 46 :: fracT (partT s n))) := by rw [← hx, textT, List.append_assoc]
        have go : ∀ (i : Nat), x.drop i = Lib.decDigits (wholeT s n) ++ (if partT s n = 0 then [] else 46 :: fracT (partT s n)) → i ≤ x.length → gripsackref1_ParseStamp.l0 k (mkS x) 0 0 (i : Int) = some (outT (some (s, n))) := by
          intro i hd hi
          obtain ⟨K', hk, h⟩ := l0_text x (by omega) (Lib.decDigits (wholeT s n)) _ k i 0 hd hi (fun c hc => num_digit _ c hc) (by rw [hv]; exact hw) hr (by omega)
          rw [hv] at h
          rw [show ((0 : Nat) : Int) = 0 from rfl] at h
          rw [h]
          have hd2 : x.drop (i + (Lib.decDigits (wholeT s n)).length) = (if partT s n = 0 then [] else 46 :: fracT (partT s n)) := by
            rw [← List.drop_drop, hd, List.drop_left]
          have hlen := congrArg List.length hd
          rw [List.length_append, List.length_drop] at hlen
          exact j3_text hm K' _ x hx hd2 (by omega) (by omega)
        cases x with
        | nil => simp at h0
        | cons b r =>
          simp only [List.getD_cons_zero]
          simp only at hpre
          by_cases hs : s < 0
          · have hb : b = 45 := by simpa [hs] using hpre
            rw [if_pos (by rw [hb]; rfl)]
            refine go 1 ?_ (by simp)
            have hsg : signT s = [45] := by unfold signT; rw [if_pos hs]
            rw [hsg] at hparts
            injection hparts with _ h2
          · have hb : ¬ b = 45 := by simpa [hs] using hpre
            have hb2 : ¬ ((b.toNat : Int) = 45) := fun e => hb (UInt8.toNat_inj.1 (show b.toNat = 45 by omega))
            rw [if_neg hb2]
            refine go 0 ?_ (Nat.zero_le _)
            have hsg : signT s = [] := by unfold signT; rw [if_neg hs]
            rw [hsg, List.nil_append] at hparts
            exact hparts
end Go.Proofs.YtfdfpgkfhcmlcaaDoor
