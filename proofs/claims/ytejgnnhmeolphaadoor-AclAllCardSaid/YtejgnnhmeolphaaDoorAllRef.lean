/- The reference answers, but for ParseAcl, are the program answers, in plain Lean. -/
import Derived.Test.YtejgnnhmeolphaaDoorPRefMayx
import Derived.Test.YtejgnnhmeolphaaDoorAllMay
import Derived.Test.YtejgnnhmeolphaaDoorPRefTextx
set_option linter.unusedVariables false
set_option linter.unusedSimpArgs false
namespace Go.Proofs.YtejgnnhmeolphaaDoor
open Go.RowKit Go.Proofs.YtejgnnhmeolphaaDoorW.PrintWords Go.Proofs.YtejgnnhmeolphaaDoor.PAclR Go.Proofs.YtejgnnhmeolphaaDoor.PRefMay

theorem chain_once {t : Int} (ht : t = 1 ∨ t = 3 ∨ t = 5 ∨ t = 6) : ∀ (l : List Ace) (p : Ace), chain p l → cntT l t ≤ 1 ∧ (t < p.f0 ∨ (p.f0 = t ∧ p.f1 = 0) → cntT l t = 0)
  | [], p, _ => ⟨by simp [cnt_nil], fun _ => cnt_nil t⟩
  | a :: r, p, h => by
    obtain ⟨hb, hr⟩ := h
    obtain ⟨i1, i2⟩ := chain_once ht r a hr
    have hb' : ¬ badB p a = true := by rw [hb]; decide
    obtain ⟨g1, g2, g3, g4, g5⟩ := good_of hb'
    have gn := good_nums (a := a) ⟨g1, g2, g3⟩
    rw [cnt_cons]
    by_cases e : a.f0 = t
    · have hn : namedB a.f0 = false := by rw [e]; rcases ht with rfl | rfl | rfl | rfl <;> rfl
      have ha := gn.2.2.2.2 hn
      have hz := i2 (.inr ⟨e, ha⟩)
      rw [if_pos e, hz]
      refine ⟨by omega, fun hp => ?_⟩
      rcases hp with hp | ⟨hp, hp2⟩
      · omega
      · have := g5 (by omega); omega
    · rw [if_neg e]
      refine ⟨by omega, fun hp => ?_⟩
      have : t < a.f0 := by rcases hp with hp | ⟨hp, _⟩ <;> omega
      have := i2 (.inl this)
      omega
theorem may_three {l : List Ace} (h : mayL l = true) : 3 ≤ l.length := by
  obtain ⟨_, h1, h3, h6, _, _⟩ := (may_iff l).1 h
  have k : ∀ r : List Ace, cntT r 1 + cntT r 3 + cntT r 6 ≤ r.length := by
    intro r
    induction r with
    | nil => simp [cnt_nil]
    | cons a r ih =>
      rw [cnt_cons, cnt_cons, cnt_cons, List.length_cons]
      split <;> split <;> split <;> omega
  have := k l
  omega
theorem may_short {l : List Ace} (h : l.length < 3) : mayL l = false := by
  cases hm : mayL l with
  | false => rfl
  | true => have := may_three hm; omega
theorem may_long {l : List Ace} (h : 32 < l.length) : mayL l = false := by
  cases hm : mayL l with
  | false => rfl
  | true => have := ((may_iff l).1 hm).2.2.2.2.2; omega
theorem bad_cases {t id pm : Int} (h : ¬ GoodAce ⟨t, id, pm⟩) : t < 1 ∨ (1 ≤ t ∧ 6 < t) ∨ (1 ≤ t ∧ t ≤ 6 ∧ pm < 0) ∨ (1 ≤ t ∧ t ≤ 6 ∧ 0 ≤ pm ∧ 7 < pm) ∨ (1 ≤ t ∧ t ≤ 6 ∧ 0 ≤ pm ∧ pm ≤ 7 ∧ id < 0) ∨ (1 ≤ t ∧ t ≤ 6 ∧ 0 ≤ pm ∧ pm ≤ 7 ∧ 0 ≤ id ∧ 2147483647 < id) ∨
    (1 ≤ t ∧ t ≤ 6 ∧ 0 ≤ pm ∧ pm ≤ 7 ∧ 0 ≤ id ∧ id ≤ 2147483647 ∧ namedB t = false ∧ (id != 0) = true) := by
  by_cases q1 : t < 1
  · exact .inl q1
  by_cases q2 : 6 < t
  · exact .inr (.inl ⟨by omega, q2⟩)
  by_cases q3 : pm < 0
  · exact .inr (.inr (.inl ⟨by omega, by omega, q3⟩))
  by_cases q4 : 7 < pm
  · exact .inr (.inr (.inr (.inl ⟨by omega, by omega, by omega, q4⟩)))
  by_cases q5 : id < 0
  · exact .inr (.inr (.inr (.inr (.inl ⟨by omega, by omega, by omega, by omega, q5⟩))))
  by_cases q6 : 2147483647 < id
  · exact .inr (.inr (.inr (.inr (.inr (.inl ⟨by omega, by omega, by omega, by omega, by omega, q6⟩)))))
  refine .inr (.inr (.inr (.inr (.inr (.inr ⟨by omega, by omega, by omega, by omega, by omega, by omega, ?_, ?_⟩)))))
  · cases hn : namedB t with
    | false => rfl
    | true => exact absurd ⟨by show 1 ≤ t; omega, by show t ≤ 6; omega, by simp [mayAceB, hn]; omega⟩ h
  · rw [bne_iff_ne]
    intro hz
    exact absurd ⟨by show 1 ≤ t; omega, by show t ≤ 6; omega, by simp [mayAceB, hz]; omega⟩ h
theorem bad_of_not {last a : Ace} (h : ¬ GoodAce a) : badB last a = true := by
  cases hb : badB last a with
  | true => rfl
  | false =>
    have := good_of (last := last) (a := a) (by rw [hb]; decide)
    exact absurd ⟨this.1, this.2.1, this.2.2.1⟩ h
theorem named_id {t id : Int} (h : namedB t = false → id = 0) (hn : namedB t = false) : (id != 0) = false := by rw [h hn]; rfl

theorem named_f (t i p : Int) : gripsackref9_named.f t i p = some (namedB t) := by
  unfold gripsackref9_named.f namedB
  by_cases h : t = 2
  · simp [h]
  · have : (t == 2) = false := by simpa using h
    simp [h, this]
theorem rMay_good {l : List Ace} {m : List Int} {i : Nat} {t id pm : Int} (k : Nat) (hi : i < l.length) (ha : rd_T27 l (i : Int) = ⟨t, id, pm⟩) (hg : GoodAce ⟨t, id, pm⟩) : rMay.l0 (k + 1) l m i = rMay.j2 k l m i false t id pm := by
  obtain ⟨g1, g2, g3, g4, g5⟩ := good_nums hg
  have g6 := hg.1
  have g7 := hg.2.1
  simp only at g1 g2 g3 g4 g5 g6 g7
  unfold rMay.l0
  rw [ha]
  simp only
  rw [if_pos (by omega), if_pos (by omega), if_neg (by omega), if_neg (by omega), if_neg (by omega), if_neg (by omega), if_neg (by omega), if_neg (by omega), named_f]
  simp only [Option.bind_some]
  cases hn : namedB t with
  | true => rw [if_pos rfl]
  | false => rw [if_neg (by decide), g5 hn]; rfl
theorem rMay_bad {l : List Ace} {m : List Int} {i : Nat} {t id pm : Int} (k : Nat) (hi : i < l.length) (ha : rd_T27 l (i : Int) = ⟨t, id, pm⟩) (hg : ¬ GoodAce ⟨t, id, pm⟩) : rMay.l0 (k + 2) l m i = some false := by
  have hj : ∀ t id pm, rMay.j2 (k + 1) l m i true t id pm = some false := fun t id pm => by unfold rMay.j2; rw [if_pos rfl]
  unfold rMay.l0
  rw [ha]
  simp only [hj]
  rw [if_pos (by omega), if_pos (by omega)]
  rcases bad_cases hg with p1 | ⟨p0, p1⟩ | ⟨p0, p1, p2⟩ | ⟨p0, p1, p2, p3⟩ | ⟨p0, p1, p2, p3, p4⟩ | ⟨p0, p1, p2, p3, p4, p5⟩ | ⟨p0, p1, p2, p3, p4, p5, p6, p7⟩
  · rw [if_pos p1]
  · rw [if_neg (by omega), if_pos (by omega)]
  · rw [if_neg (by omega), if_neg (by omega), if_pos (by omega)]
  · rw [if_neg (by omega), if_neg (by omega), if_neg (by omega), if_pos (by omega)]
  · rw [if_neg (by omega), if_neg (by omega), if_neg (by omega), if_neg (by omega), if_pos (by omega)]
  · rw [if_neg (by omega), if_neg (by omega), if_neg (by omega), if_neg (by omega), if_neg (by omega), if_pos (by omega)]
  · rw [if_neg (by omega), if_neg (by omega), if_neg (by omega), if_neg (by omega), if_neg (by omega), if_neg (by omega), named_f, p6]
    simp only [Option.bind_some]
    rw [if_neg (by decide), p7, hj]
theorem rMay_next {l : List Ace} {m : List Int} {i : Nat} {t id pm : Int} {last : Ace} (k : Nat) (hi : i < l.length) (hl : l.length ≤ 32) (hm : m.length = 7) (hb : ∀ y ∈ m, 0 ≤ y ∧ y ≤ 100) (hg : GoodAce ⟨t, id, pm⟩)
    (h0 : 0 < i → rd_T27 l ((i : Int) - 1) = last) (h1 : i = 0 → last.f0 = 0) (hlast : 0 < i → GoodAce last) : rMay.j2 (k + 1) l m i false t id pm = if badB last ⟨t, id, pm⟩ = true then some false else rMay.l0 k l (m.set t.toNat (m.getD t.toNat 0 + 1)) ((i + 1 : Nat) : Int) := by
  obtain ⟨g1, g2, g3, g4, g5⟩ := good_nums hg
  have g6 := hg.1
  have g7 := hg.2.1
  simp only at g1 g2 g3 g4 g5 g6 g7
  have hy : 0 ≤ m.getD t.toNat 0 ∧ m.getD t.toNat 0 ≤ 100 := by
    rw [List.getD_eq_getElem?_getD, List.getElem?_eq_getElem (by omega)]
    exact hb _ (List.getElem_mem _)
  have hset : (if 0 ≤ t then (if t < (m.length : Int) then (rMay.l0 k l (m.set (t : Int).toNat (wrap64 ((rd m t) + 1))) (wrap64 ((i : Int) + 1))) else none) else none) = rMay.l0 k l (m.set t.toNat (m.getD t.toNat 0 + 1)) ((i + 1 : Nat) : Int) := by
    rw [if_pos (by omega), if_pos (by omega)]
    unfold rd
    rw [w64 (by omega), w64 (by omega)]
    rfl
  unfold rMay.j2
  rw [if_neg (by decide), hset]
  rcases Nat.eq_zero_or_pos i with rfl | hp
  · rw [if_neg (by simp), bad_not hg (.inl (by show last.f0 < t; rw [h1 rfl]; omega)), if_neg (by decide)]
  · have hgl := hlast hp
    obtain ⟨k1, k2, k3, k4, k5⟩ := good_nums hgl
    rw [if_pos (by omega), w64 (by omega), if_pos (by omega), if_pos (by omega), h0 hp]
    by_cases q1 : t < last.f0
    · rw [if_pos q1, if_pos (by simp [badB, q1])]
    · rw [if_neg q1]
      by_cases q2 : t = last.f0
      · rw [if_pos q2, named_f]
        simp only [Option.bind_some]
        cases hn : namedB t with
        | false =>
          have e1 := g5 hn
          have e2 := k5 (by rw [← q2]; exact hn)
          rw [if_neg (by decide), if_pos (by simp [badB, q2, e1, e2])]
        | true =>
          rw [if_pos rfl]
          by_cases q3 : id ≤ last.f1
          · rw [if_pos q3, if_pos (by simp [badB, q2, q3])]
          · rw [if_neg q3, bad_not hg (.inr ⟨q2.symm, by show last.f1 < id; omega⟩), if_neg (by decide)]
      · rw [if_neg q2, bad_not hg (.inl (by show last.f0 < t; omega)), if_neg (by decide)]
theorem rMay_end {l : List Ace} {m : List Int} {last : Ace} (k : Nat) (hl : l.length ≤ 32) (hs : scan l ace0 zeros7 = some (last, m)) : rMay.l0 (k + 1) l m (l.length : Int) = some (mayL l) := by
  have hm7 : m.length = 7 := by have := scan_length _ _ _ _ hs; simpa [zeros7] using this
  have hch : chain ace0 l := (scan_chain l ace0 zeros7).1 (by rw [hs]; rfl)
  have k5 := scan_count l ace0 zeros7 _ hs rfl 5 (by omega) (by omega)
  have k2 := scan_count l ace0 zeros7 _ hs rfl 2 (by omega) (by omega)
  have k4 := scan_count l ace0 zeros7 _ hs rfl 4 (by omega) (by omega)
  have c5 := (chain_once (t := 5) (by simp) l ace0 hch).1
  have c2 : cntT l 2 ≤ l.length := List.countP_le_length
  have c4 : cntT l 4 ≤ l.length := List.countP_le_length
  obtain ⟨m0, m1, m2, m3, m4, m5, m6, rfl⟩ : ∃ m0 m1 m2 m3 m4 m5 m6 : Int, m = [m0, m1, m2, m3, m4, m5, m6] := by
    match m, hm7 with
    | [a, b, c, d, e, f, g], _ => exact ⟨a, b, c, d, e, f, g, rfl⟩
  simp only [show (2 : Int).toNat = 2 from rfl, show (4 : Int).toNat = 4 from rfl, show (5 : Int).toNat = 5 from rfl, zeros7, List.getD_cons_succ, List.getD_cons_zero, Int.zero_add] at k2 k4 k5
  have hml : mayL l = ((m1 == 1) && (m3 == 1) && (m6 == 1) && (m5 == if m2 + m4 < 1 then m2 + m4 else 1) && decide ((l.length : Int) ≤ 32)) := by
    unfold mayL
    rw [hs]
    rfl
  rw [hml]
  unfold rMay.l0
  rw [if_neg (by omega)]
  simp only [rd, show (1 : Int).toNat = 1 from rfl, show (2 : Int).toNat = 2 from rfl, show (3 : Int).toNat = 3 from rfl, show (4 : Int).toNat = 4 from rfl, show (5 : Int).toNat = 5 from rfl, show (6 : Int).toNat = 6 from rfl, List.getD_cons_succ, List.getD_cons_zero, List.length_cons, List.length_nil]
  rw [w64 (by omega)]
  have hl' : decide ((l.length : Int) ≤ 32) = true := decide_eq_true (by omega)
  rw [hl']
  by_cases e1 : m1 = 1
  · by_cases e3 : m3 = 1
    · by_cases e6 : m6 = 1
      · have h5 : m5 = 0 ∨ m5 = 1 := by omega
        have h24 : 0 ≤ m2 + m4 := by omega
        subst e1 e3 e6
        by_cases hz : m2 + m4 < 1
        · have hz2 : ¬ m2 + m4 > 0 := by omega
          have hz3 : m2 + m4 = 0 := by omega
          rcases h5 with rfl | rfl <;> simp [hz2, hz3]
        · have hz2 : m2 + m4 > 0 := by omega
          rcases h5 with rfl | rfl <;> simp [hz, hz2]
      · simp [e1, e3, e6]
    · simp [e1, e3]
  · simp [e1]
theorem rMay_loop (l : List Ace) (hl : l.length ≤ 32) : ∀ (d i : Nat) (m : List Int) (last : Ace) (k : Nat), l.length - i = d → i ≤ l.length → 2 * d + 2 ≤ k → scan (l.take i) ace0 zeros7 = some (last, m) → (0 < i → rd_T27 l ((i : Int) - 1) = last) → (i = 0 → last.f0 = 0) → rMay.l0 k l m (i : Int) = some (mayL l)
  | 0, i, m, last, k, hd, hi, hk, hs, h0, h1 => by
    obtain rfl : i = l.length := by omega
    obtain ⟨k, rfl⟩ : ∃ k', k = k' + 1 := ⟨k - 1, by omega⟩
    rw [List.take_length] at hs
    exact rMay_end k hl hs
  | d + 1, i, m, last, k, hd, hi, hk, hs, h0, h1 => by
    obtain ⟨k, rfl⟩ : ∃ k', k = k' + 2 := ⟨k - 2, by omega⟩
    have hlt : i < l.length := by omega
    obtain ⟨⟨t, id, pm⟩, ha⟩ : ∃ a, rd_T27 l (i : Int) = a := ⟨_, rfl⟩
    have hm7 : m.length = 7 := by have := scan_length _ _ _ _ hs; simpa [zeros7] using this
    have hbd : ∀ y ∈ m, 0 ≤ y ∧ y ≤ 100 := fun y hy => by
      have := scan_bd _ _ _ _ 0 hs (by simp [zeros7]) y hy
      rw [List.length_take] at this; omega
    by_cases hg : GoodAce ⟨t, id, pm⟩
    · rw [rMay_good (k + 1) hlt ha hg, rMay_next k hlt hl hm7 hbd hg h0 h1 (fun hp => by
        have he : last = l[i - 1]'(by omega) := by
          have h := h0 hp
          unfold rd_T27 at h
          rw [show ((i : Int) - 1).toNat = i - 1 from by omega, List.getD_eq_getElem?_getD, List.getElem?_eq_getElem (by omega)] at h
          exact h.symm
        have hmem : last ∈ l.take i := by
          rw [he]
          refine List.mem_iff_getElem.2 ⟨i - 1, by rw [List.length_take]; omega, ?_⟩
          rw [List.getElem_take]
        exact scan_good _ _ _ _ hs last hmem)]
      split
      · rename_i hb
        rw [may_bad hs (drop_at ⟨ha⟩ hlt) hb]
      · rename_i hb
        refine rMay_loop l hl d (i + 1) _ ⟨t, id, pm⟩ k (by omega) (by omega) (by omega) (scan_next hs hlt (drop_at ⟨ha⟩ hlt) hb) (fun _ => ?_) (fun h => absurd h (by omega))
        rw [show ((i + 1 : Nat) : Int) - 1 = (i : Int) from by omega]
        exact ha
    · rw [rMay_bad k hlt ha hg, may_bad hs (drop_at ⟨ha⟩ hlt) (bad_of_not hg)]
theorem rMay_f (l : List Ace) (k : Nat) (hk : 70 ≤ k) : rMay.f k l = some (mayL l) := by
  obtain ⟨k, rfl⟩ : ∃ k', k = k' + 1 := ⟨k - 1, by omega⟩
  have hj : rMay.j0 (k + 1) l true = some false := rfl
  unfold rMay.f
  by_cases h3 : (l.length : Int) < 3
  · rw [if_pos h3, hj, may_short (by omega)]
  · rw [if_neg h3]
    by_cases h32 : (l.length : Int) > 32
    · rw [decide_eq_true h32, hj, may_long (by omega)]
    · rw [decide_eq_false h32]
      show rMay.l0 k l (List.replicate 7 0) 0 = some (mayL l)
      exact rMay_loop l (by omega) (l.length - 0) 0 zeros7 ace0 k rfl (Nat.zero_le _) (by omega) (by simp [scan]) (fun h => absurd h (by omega)) (fun _ => rfl)
end Go.Proofs.YtejgnnhmeolphaaDoor
namespace Go.Proofs.YtejgnnhmeolphaaDoor
open Go.RowKit Go.Proofs.YtejgnnhmeolphaaDoorW.PrintWords Go.Proofs.YtejgnnhmeolphaaDoor.PAclR

theorem nums_one (x : Int) (h : 0 ≤ x ∧ x ≤ 9) : strOfNums [(wrap64 (48 + x)) % 256] = mkS [UInt8.ofNat (48 + x.toNat)] := by
  rw [w64 (by omega)]
  unfold strOfNums mkS
  simp only [List.map_cons, List.map_nil]
  congr 3
  rw [show ((48 + x) % 256).toNat = 48 + x.toNat from by omega]
theorem digits_go : ∀ (d n k : Nat) (t : List UInt8), n < 10 ^ (d + 1) → n < 1000000000000000000 → d + 1 ≤ k → t.length + d + 1 ≤ 1000000 → gripsackref1_Digits.l0 k (n : Int) (mkS t) = some (mkS (Lib.decDigits n ++ t))
  | d, n, 0, t, _, _, hk, _ => absurd hk (by omega)
  | d, n, k + 1, t, hn, hm, hk, ht => by
    rw [Lib.decDigits]
    unfold gripsackref1_Digits.l0
    by_cases h : n < 10
    · rw [dif_pos h, if_neg (by omega)]
      simp only [Option.bind_some]
      rw [nums_one (n : Int) (by omega), append_mkS, if_pos (by rw [size_mkS, size_mkS]; simp; omega)]
      simp
    · cases d with
      | zero => omega
      | succ d =>
        have e1 : Int.tmod (n : Int) 10 = ((n % 10 : Nat) : Int) := by rw [Int.tmod_eq_emod_of_nonneg (by omega)]; omega
        have e0 : Int.tdiv (n : Int) 10 = ((n / 10 : Nat) : Int) := by rw [Int.tdiv_eq_ediv_of_nonneg (by omega)]; omega
        have e2 : wrap64 (Int.tdiv (n : Int) 10) = ((n / 10 : Nat) : Int) := by rw [e0]; exact w64 (by omega)
        rw [dif_neg h, if_pos (by omega)]
        simp only [Option.bind_some]
        rw [e2, e1, nums_one _ (by omega), Int.toNat_natCast, append_mkS, if_pos (by rw [size_mkS, size_mkS]; simp; omega)]
        rw [digits_go d (n / 10) k _ (by rw [Nat.pow_succ] at hn; omega) (by omega) (by omega) (by simp; omega)]
        simp
theorem digits_f (n : Int) (k : Nat) (h0 : 0 ≤ n) (h1 : n < 1000000000000000000) (hk : 18 ≤ k) : gripsackref1_Digits.f k n = some (mkS (Lib.itoa n)) := by
  have h := digits_go 17 n.toNat k [] (by omega) (by omega) (by omega) (by simp)
  rw [Int.toNat_of_nonneg h0, List.append_nil] at h
  rw [itoa_dec h0]
  exact h

/- Texts cut at a byte. -/
theorem cut_loop (s : List UInt8) (c : UInt8) (hs : s.length ≤ 1000000) : ∀ (d i fr : Nat) (acc : List ByteArray) (k : Nat), s.length - i = d → fr ≤ i → i ≤ s.length → (∀ j, fr ≤ j → j < i → s.getD j 0 ≠ c) → acc.length + d ≤ 2000000 → d + 2 ≤ k →
    gripsackref9_cut.l0 k (mkS s) (c.toNat : Int) acc (fr : Int) (i : Int) = some (acc ++ (splitOn c (s.drop fr)).map mkS)
  | 0, i, fr, acc, k, hd, hfi, hi, hno, ha, hk => by
    obtain ⟨k, rfl⟩ : ∃ k', k = k' + 2 := ⟨k - 2, by omega⟩
    obtain rfl : i = s.length := by omega
    have hmiss : splitOn c (s.drop fr) = [s.drop fr] := splitOn_miss c _ (fun hm => by
      obtain ⟨j, hj, e⟩ := List.mem_iff_getElem.1 hm
      rw [List.getElem_drop] at e
      rw [List.length_drop] at hj
      refine hno (fr + j) (by omega) (by omega) ?_
      rw [List.getD_eq_getElem?_getD, List.getElem?_eq_getElem (by omega)]
      exact e)
    unfold gripsackref9_cut.l0
    rw [size_mkS, if_pos (by omega), if_pos rfl, if_pos (by omega), if_pos (by omega), if_pos (by omega), hmiss]
    unfold gripsackref9_cut.l0
    rw [size_mkS, w64 (by omega), if_neg (by omega), extract_mkS]
    simp only [Int.toNat_natCast, List.map_cons, List.map_nil]
    rw [List.take_of_length_le (by simp)]
  | d + 1, i, fr, acc, k, hd, hfi, hi, hno, ha, hk => by
    obtain ⟨k, rfl⟩ : ∃ k', k = k' + 1 := ⟨k - 1, by omega⟩
    unfold gripsackref9_cut.l0
    rw [size_mkS, if_pos (by omega), if_neg (by omega), if_pos (by omega), if_pos (by omega), w64 (by omega), bt_mkS, show ((i : Int) + 1) = ((i + 1 : Nat) : Int) from by omega]
    simp only [Int.toNat_natCast]
    by_cases hc : s.getD i 0 = c
    · rw [if_pos (by rw [hc]), if_pos (by omega), if_pos (by omega), if_pos (by omega), cut_loop s c hs d (i + 1) (i + 1) _ k (by omega) (by omega) (by omega) (fun j h1 h2 => absurd h1 (by omega)) (by simp; omega) (by omega)]
      have hd2 : s.drop i = c :: s.drop (i + 1) := by
        rw [List.getD_eq_getElem?_getD, List.getElem?_eq_getElem (by omega)] at hc
        rw [List.drop_eq_getElem_cons (by omega)]
        congr 1
      have hcut : s.drop fr = (s.drop fr).take (i - fr) ++ c :: s.drop (i + 1) := by
        rw [← hd2, show s.drop i = (s.drop fr).drop (i - fr) from by rw [List.drop_drop, show fr + (i - fr) = i from by omega], List.take_append_drop]
      have hsp : splitOn c (s.drop fr) = (s.drop fr).take (i - fr) :: splitOn c (s.drop (i + 1)) := by
        rw [hcut]
        rw [splitOn_cut c _ _ (fun hm => by
          obtain ⟨j, hj, e⟩ := List.mem_iff_getElem.1 hm
          rw [List.getElem_take, List.getElem_drop] at e
          rw [List.length_take, List.length_drop] at hj
          refine hno (fr + j) (by omega) (by omega) ?_
          rw [List.getD_eq_getElem?_getD, List.getElem?_eq_getElem (by omega)]
          exact e)]
        rw [← hcut]
      rw [hsp, extract_mkS]
      simp
    · rw [if_neg (fun h => hc (UInt8.toNat_inj.1 (by omega))), cut_loop s c hs d (i + 1) fr acc k (by omega) (by omega) (by omega) (fun j h1 h2 => by
        by_cases e : j = i
        · rw [e]; exact hc
        · exact hno j h1 (by omega)) (by omega) (by omega)]
theorem cut_f (s : List UInt8) (c : UInt8) (k : Nat) (hs : s.length ≤ 1000000) (hk : s.length + 2 ≤ k) : gripsackref9_cut.f k (mkS s) (c.toNat : Int) = some ((splitOn c s).map mkS) := by
  have h := cut_loop s c hs s.length 0 0 [] k (by omega) (Nat.le_refl _) (Nat.zero_le _) (fun j _ h => absurd h (by omega)) (by simp; omega) hk
  exact h

/- Numbers out of text. -/
theorem dec_total (s : List UInt8) (hs : s.length ≤ 1000000) : ∀ (d i k : Nat) (n : Int), s.length - i = d → i ≤ s.length → 0 ≤ n → n ≤ 21474836480 → 2 * d + 40 ≤ k → ∃ r, gripsackref9_Decimal.l0 k (mkS s) n (i : Int) = some r ∧ -1 ≤ r ∧ r ≤ 2147483647
  | d, i, k, n, hd, hi, h0, h1, hk => by
    obtain ⟨k, rfl⟩ : ∃ k', k = k' + 2 := ⟨k - 2, by omega⟩
    have hend : ∃ r, gripsackref9_Decimal.j1 (k + 1) (mkS s) n (i : Int) false = some r ∧ -1 ≤ r ∧ r ≤ 2147483647 := by
      unfold gripsackref9_Decimal.j1
      rw [if_neg (by decide)]
      by_cases hb : n > 2147483647
      · rw [if_pos hb]; exact ⟨-1, rfl, by omega, by omega⟩
      · rw [if_neg hb, digits_f n k h0 (by omega) (by omega)]
        simp only [Option.bind_some]
        split
        · exact ⟨n, rfl, by omega, by omega⟩
        · exact ⟨-1, rfl, by omega, by omega⟩
    unfold gripsackref9_Decimal.l0
    rw [size_mkS]
    by_cases hlt : (i : Int) < (s.length : Int)
    · rw [if_pos hlt]
      by_cases hn : n ≤ 2147483647
      · rw [decide_eq_true hn]
        unfold gripsackref9_Decimal.j1
        rw [if_pos rfl, size_mkS, if_pos (by omega), if_pos hlt]
        split
        · exact ⟨-1, rfl, by omega, by omega⟩
        · split
          · exact ⟨-1, rfl, by omega, by omega⟩
          · rename_i a1 a2
            cases d with
            | zero => omega
            | succ d =>
              rw [w64 (x := n * 10) (by omega), w64 (x := (i : Int) + 1) (by omega), w64 (by omega), show ((i : Int) + 1) = ((i + 1 : Nat) : Int) from by omega]
              exact dec_total s hs d (i + 1) k _ (by omega) (by omega) (by omega) (by omega) (by omega)
      · rw [decide_eq_false hn]; exact hend
    · rw [if_neg hlt]; exact hend
/-- What the reference's Decimal says. -/
def decL (s : List UInt8) : Int := (gripsackref9_Decimal.f (2 * s.length + 40) (mkS s)).getD (-1)
theorem le_up {α : Type} {f : Nat → Option α} (h : ∀ k, LeO (f k) (f (k + 1))) {k : Nat} {r : α} (hk : f k = some r) : ∀ n, f (k + n) = some r
  | 0 => hk
  | n + 1 => h (k + n) r (le_up h hk n)
theorem dec_f (s : List UInt8) (k : Nat) (hs : s.length ≤ 1000000) (hk : 2 * s.length + 40 ≤ k) : gripsackref9_Decimal.f k (mkS s) = some (decL s) ∧ -1 ≤ decL s ∧ decL s ≤ 2147483647 := by
  obtain ⟨r, hr, h0, h1⟩ := dec_total s hs s.length 0 (2 * s.length + 40) 0 (by omega) (Nat.zero_le _) (by omega) (by omega) (by omega)
  have hf : gripsackref9_Decimal.f (2 * s.length + 40) (mkS s) = some r := hr
  have he : decL s = r := by unfold decL; rw [hf]; rfl
  rw [he]
  have := le_up (f := fun k => gripsackref9_Decimal.f k (mkS s)) (fun k => gripsackref9_Decimal.mono _ k) hf (k - (2 * s.length + 40))
  rw [show 2 * s.length + 40 + (k - (2 * s.length + 40)) = k from by omega] at this
  exact ⟨this, h0, h1⟩
end Go.Proofs.YtejgnnhmeolphaaDoor
namespace Go.Proofs.YtejgnnhmeolphaaDoor
open Go.RowKit Go.Proofs.YtejgnnhmeolphaaDoorW.PrintWords Go.Proofs.YtejgnnhmeolphaaDoor.PAclR Go.Proofs.YtejgnnhmeolphaaDoor.PRefMay Go.Proofs.YtejgnnhmeolphaaDoor.PRefText

theorem join_snoc (xs : List (List UInt8)) (y : List UInt8) (h : xs ≠ []) : Lib.join (xs ++ [y]) [44] = Lib.join xs [44] ++ 44 :: y := by
  induction xs with
  | nil => exact absurd rfl h
  | cons x r ih =>
    cases r with
    | nil => rw [List.cons_append, List.nil_append, join_cons, Lib.join_one, Lib.join_one]
    | cons z r => rw [List.cons_append, List.cons_append, join_cons, ← List.cons_append, ih (by simp), join_cons]; simp
theorem rwx8 : ∀ p : Fin 8, [if Go.bits .and .i64 (p.val : Int) 4 = 0 then (45 : UInt8) else 114, if Go.bits .and .i64 (p.val : Int) 2 = 0 then 45 else 119, if Go.bits .and .i64 (p.val : Int) 1 = 0 then 45 else 120] = rwxP (p.val : Int) := by decide +kernel
theorem rwx_f (p : Int) (h0 : 0 ≤ p) (h1 : p ≤ 7) : gripsackref9_rwx.f p = some (mkS (rwxP p)) := by
  have h := rwx8 ⟨p.toNat, by omega⟩
  simp only [Int.toNat_of_nonneg h0] at h
  rw [← h]
  unfold gripsackref9_rwx.f rwxS strOfNums mkS
  simp only [List.map_cons, List.map_nil]
  congr 2
  split <;> split <;> split <;> rfl
def refHeads : List ByteArray := [⟨#[]⟩, ⟨#[117]⟩, ⟨#[117]⟩, ⟨#[103]⟩, ⟨#[103]⟩, ⟨#[109]⟩, ⟨#[111]⟩]
theorem refHeads_at (t : Int) (h0 : 1 ≤ t) (h1 : t ≤ 6) : rdOf ByteArray.empty refHeads t = mkS (headOf t) := by
  have : t = 1 ∨ t = 2 ∨ t = 3 ∨ t = 4 ∨ t = 5 ∨ t = 6 := by omega
  rcases this with rfl | rfl | rfl | rfl | rfl | rfl <;> rfl
theorem text_part (k : Nat) (l : List Ace) (s : List UInt8) (i : Nat) (t id pm : Int) (hg : GoodAce ⟨t, id, pm⟩) (hs : s.length ≤ 1000000) (hi : i ≤ 1000000) (hk : 18 ≤ k) :
    gripsackref9_TextAcl.j1 (k + 1) l (mkS s) (i : Int) t id pm = gripsackref9_TextAcl.l0 k l (mkS (s ++ aceText ⟨t, id, pm⟩)) ((i + 1 : Nat) : Int) := by
  obtain ⟨g0, g1, g2, g3, g4⟩ := good_nums hg
  have g5 := hg.1
  have g6 := hg.2.1
  simp only at g0 g1 g2 g3 g4 g5 g6
  have hl1 := headOf_len t
  have hl3 : (rwxP pm).length = 3 := rfl
  have hln := Lib.itoa_length_le id (by omega) (by omega)
  unfold gripsackref9_TextAcl.j1
  simp only [Option.bind_some]
  have hY : ([(⟨#[]⟩ : ByteArray), (⟨#[117]⟩ : ByteArray), (⟨#[117]⟩ : ByteArray), (⟨#[103]⟩ : ByteArray), (⟨#[103]⟩ : ByteArray), (⟨#[109]⟩ : ByteArray), (⟨#[111]⟩ : ByteArray)] : List ByteArray) = refHeads := rfl
  rw [hY, show (refHeads.length : Int) = 7 from rfl, if_pos (by omega), if_pos (by omega), refHeads_at t g5 g6, show (⟨#[58]⟩ : ByteArray) = mkS [58] from rfl]
  simp only [append_mkS, size_mkS, named_f, Option.bind_some, rwx_f pm g2 g3, digits_f id k g0 (by omega) hk, List.length_append, List.length_cons, List.length_nil, hl1, hl3]
  rw [if_pos (by omega), if_pos (by omega), w64 (by omega), show ((i : Int) + 1) = ((i + 1 : Nat) : Int) from by omega]
  cases hn : namedB t with
  | true =>
    rw [if_pos rfl, if_pos (by omega), if_pos (by omega), if_pos (by omega)]
    congr 2
    unfold aceText
    simp [hn]
  | false =>
    rw [if_neg (by decide), if_pos (by omega), if_pos (by omega)]
    congr 2
    unfold aceText
    simp [hn]
theorem text_loop (l : List Ace) (hg : ∀ a ∈ l, GoodAce a) (hl : l.length ≤ 1000) : ∀ (d i k : Nat), l.length - i = d → i ≤ l.length → 2 * d + 30 ≤ k → gripsackref9_TextAcl.l0 k l (mkS (Lib.join ((l.take i).map aceText) [44])) (i : Int) = some (mkS (textL l))
  | 0, i, k, hd, hi, hk => by
    obtain ⟨k, rfl⟩ : ∃ k', k = k' + 1 := ⟨k - 1, by omega⟩
    obtain rfl : i = l.length := by omega
    unfold gripsackref9_TextAcl.l0
    rw [if_neg (by omega), List.take_length]
    rfl
  | d + 1, i, k, hd, hi, hk => by
    obtain ⟨k, rfl⟩ : ∃ k', k = k' + 2 := ⟨k - 2, by omega⟩
    have hlt : i < l.length := by omega
    obtain ⟨⟨t, id, pm⟩, ha⟩ : ∃ a, rd_T27 l (i : Int) = a := ⟨_, rfl⟩
    have hi' : l[i]? = some ⟨t, id, pm⟩ := by
      have h := drop_at ⟨ha⟩ hlt
      have := congrArg (fun q => q[0]?) h
      simpa using this
    have hga : GoodAce ⟨t, id, pm⟩ := hg _ (List.mem_of_getElem? hi')
    have hlen : (Lib.join ((l.take i).map aceText) [44]).length ≤ 28000 := by
      have := join_le ((l.take i).map aceText) 27 (fun x hx => by
        obtain ⟨a, hm, rfl⟩ := List.mem_map.1 hx
        have h1 := aceText_le a
        have h2 := good_nums (hg a (List.mem_of_mem_take hm))
        have h3 := Lib.itoa_length_le a.f1 (by omega) (by omega)
        omega)
      rw [List.length_map, List.length_take] at this
      omega
    have hnext : Lib.join ((l.take (i + 1)).map aceText) [44] = (if 0 < i then Lib.join ((l.take i).map aceText) [44] ++ [44] else Lib.join ((l.take i).map aceText) [44]) ++ aceText ⟨t, id, pm⟩ := by
      rw [List.take_add_one, hi', List.map_append]
      simp only [Option.toList_some, List.map_cons, List.map_nil]
      by_cases h0 : 0 < i
      · rw [if_pos h0, join_snoc _ _ (by intro h; rw [List.map_eq_nil_iff, List.take_eq_nil_iff] at h; rcases h with h | h <;> simp [h] at hlt h0)]
        simp
      · obtain rfl : i = 0 := by omega
        simp [Lib.join_one, Lib.join_nil]
    have ih := text_loop l hg hl d (i + 1) k (by omega) (by omega) (by omega)
    rw [hnext] at ih
    unfold gripsackref9_TextAcl.l0
    rw [if_pos (by omega), if_pos (by omega), ha]
    simp only [size_mkS]
    by_cases h0 : 0 < i
    · rw [if_pos (by omega), if_pos (by omega), show (⟨#[44]⟩ : ByteArray) = mkS [44] from rfl, append_mkS, text_part k l _ i t id pm hga (by rw [List.length_append, List.length_singleton]; omega) (by omega) (by omega)]
      rw [if_pos h0] at ih
      exact ih
    · rw [if_neg (by omega), text_part k l _ i t id pm hga (by omega) (by omega) (by omega)]
      rw [if_neg h0] at ih
      exact ih
theorem text_f (l : List Ace) (k : Nat) (hm : mayL l = true) (hk : 100 ≤ k) : gripsackref9_TextAcl.f k l = some (mkS (textL l)) := by
  have h32 := ((may_iff l).1 hm).2.2.2.2.2
  exact text_loop l (may_good hm).2 (by omega) l.length 0 k (by omega) (Nat.zero_le _) (by omega)
/- SameAcl. -/
theorem same_loop (l m : List Ace) (hlm : l.length = m.length) : ∀ (d i k : Nat), l.length - i = d → i ≤ l.length → l.length ≤ 1000000 → d + 1 ≤ k → l.take i = m.take i → gripsackref9_SameAcl.l0 k l m (i : Int) = some (sameL l m)
  | 0, i, k, hd, hi, hx, hk, ht => by
    obtain ⟨k, rfl⟩ : ∃ k', k = k' + 1 := ⟨k - 1, by omega⟩
    obtain rfl : i = l.length := by omega
    unfold gripsackref9_SameAcl.l0
    rw [if_neg (by omega), sameL_take hlm ht]
  | d + 1, i, k, hd, hi, hx, hk, ht => by
    obtain ⟨k, rfl⟩ : ∃ k', k = k' + 1 := ⟨k - 1, by omega⟩
    have hlt : i < l.length := by omega
    have h1 : l.drop i = rd_T27 l (i : Int) :: l.drop (i + 1) := drop_at ⟨rfl⟩ hlt
    have h2 : m.drop i = rd_T27 m (i : Int) :: m.drop (i + 1) := drop_at ⟨rfl⟩ (by omega)
    unfold gripsackref9_SameAcl.l0
    rw [if_pos (by omega), if_pos (by omega), if_pos (by omega), w64 (by omega), show ((i : Int) + 1) = ((i + 1 : Nat) : Int) from by omega]
    have hc : (!(rd_T27 l (i : Int)).f0 == (rd_T27 m (i : Int)).f0 || (!(rd_T27 l (i : Int)).f1 == (rd_T27 m (i : Int)).f1 || !(rd_T27 l (i : Int)).f2 == (rd_T27 m (i : Int)).f2)) = !aceEq (rd_T27 l (i : Int)) (rd_T27 m (i : Int)) := by
      unfold aceEq
      rw [Bool.not_and, Bool.not_and, Bool.or_assoc]
    rw [hc]
    cases hq : aceEq (rd_T27 l (i : Int)) (rd_T27 m (i : Int)) with
    | false => rw [if_pos (by decide), sameL_at h1 h2 hq]
    | true =>
      rw [if_neg (by decide)]
      rw [(aceEq_iff _ _).1 hq] at h1
      exact same_loop l m hlm d (i + 1) k (by omega) (by omega) hx (by omega) (take_next ht h1 h2)
theorem same_f (l m : List Ace) (k : Nat) (hl : l.length ≤ 1000000) (hk : l.length + 1 ≤ k) : gripsackref9_SameAcl.f k l m = some (sameL l m) := by
  unfold gripsackref9_SameAcl.f
  by_cases h : l.length = m.length
  · rw [if_pos (by omega)]
    exact same_loop l m h l.length 0 k (by omega) (Nat.zero_le _) hl hk rfl
  · rw [if_neg (by omega), sameL_len h]
/- ModeAcl. -/
theorem perm_loop (l : List Ace) (t : Int) (hx : l.length ≤ 1000000) : ∀ (d i k : Nat), l.length - i = d → i ≤ l.length → d + 1 ≤ k → gripsackref9_Perm.l0 k l t (i : Int) = some (permL (l.drop i) t)
  | 0, i, k, hd, hi, hk => by
    obtain ⟨k, rfl⟩ : ∃ k', k = k' + 1 := ⟨k - 1, by omega⟩
    obtain rfl : i = l.length := by omega
    unfold gripsackref9_Perm.l0
    rw [if_neg (by omega), List.drop_length, perm_nil]
  | d + 1, i, k, hd, hi, hk => by
    obtain ⟨k, rfl⟩ : ∃ k', k = k' + 1 := ⟨k - 1, by omega⟩
    have h1 : l.drop i = rd_T27 l (i : Int) :: l.drop (i + 1) := drop_at ⟨rfl⟩ (by omega)
    unfold gripsackref9_Perm.l0
    rw [if_pos (by omega), if_pos (by omega), h1, perm_cons, w64 (by omega), show ((i : Int) + 1) = ((i + 1 : Nat) : Int) from by omega]
    split
    · rfl
    · exact perm_loop l t hx d (i + 1) k (by omega) (by omega) (by omega)
theorem perm_f (l : List Ace) (t : Int) (k : Nat) (hx : l.length ≤ 1000000) (hk : l.length + 1 ≤ k) : gripsackref9_Perm.f k l t = some (permL l t) :=
  perm_loop l t hx l.length 0 k (by omega) (Nat.zero_le _) hk
theorem perm_range : ∀ (l : List Ace) (t : Int), (∀ a ∈ l, GoodAce a) → -1 ≤ permL l t ∧ permL l t ≤ 7 ∧ (0 < cntT l t → 0 ≤ permL l t)
  | [], t, _ => by rw [perm_nil, cnt_nil]; omega
  | a :: l, t, h => by
    have ih := perm_range l t (fun b hb => h b (by simp [hb]))
    have hg := good_nums (h a (by simp))
    rw [perm_cons, cnt_cons]
    split <;> omega
theorem or_sum8 : ∀ a b c : Fin 8, Go.bits .or .i64 (Go.bits .or .i64 ((a.val : Int) * 64) ((b.val : Int) * 8)) (c.val : Int) = a.val * 64 + b.val * 8 + c.val := by decide +kernel
theorem or_sum (a b c : Int) (ha : 0 ≤ a ∧ a ≤ 7) (hb : 0 ≤ b ∧ b ≤ 7) (hc : 0 ≤ c ∧ c ≤ 7) : Go.bits .or .i64 (Go.bits .or .i64 (a * 64) (b * 8)) c = a * 64 + b * 8 + c := by
  have h := or_sum8 ⟨a.toNat, by omega⟩ ⟨b.toNat, by omega⟩ ⟨c.toNat, by omega⟩
  simp only [Int.toNat_of_nonneg ha.1, Int.toNat_of_nonneg hb.1, Int.toNat_of_nonneg hc.1] at h
  exact h
theorem may_perms {l : List Ace} (hm : mayL l = true) : (0 ≤ permL l 1 ∧ permL l 1 ≤ 7) ∧ (0 ≤ permL l 3 ∧ permL l 3 ≤ 7) ∧ (-1 ≤ permL l 5 ∧ permL l 5 ≤ 7) ∧ (0 ≤ permL l 6 ∧ permL l 6 ≤ 7) := by
  have hg := (may_good hm).2
  obtain ⟨_, c1, c3, c6, _, _⟩ := (may_iff l).1 hm
  have p1 := perm_range l 1 hg
  have p3 := perm_range l 3 hg
  have p5 := perm_range l 5 hg
  have p6 := perm_range l 6 hg
  omega
theorem mode_f (l : List Ace) (k : Nat) (hm : mayL l = true) (hk : 100 ≤ k) : gripsackref9_ModeAcl.f k l = some (modeL l) := by
  obtain ⟨p1, p3, p5, p6⟩ := may_perms hm
  have h32 := ((may_iff l).1 hm).2.2.2.2.2
  have pf := fun t => perm_f l t k (by omega) (by omega)
  unfold gripsackref9_ModeAcl.f modeL groupL
  simp only [pf, Option.bind_some]
  by_cases h5 : permL l 5 < 0
  · rw [if_pos h5, if_pos h5, or_sum _ _ _ p1 p3 p6, w64 (x := permL l 1 * 64) (by omega), w64 (x := permL l 3 * 8) (by omega), w64 (x := permL l 1 * 64 + permL l 3 * 8) (by omega), w64 (by omega)]
  · rw [if_neg h5, if_neg h5, or_sum _ _ _ p1 (by omega) p6, w64 (x := permL l 1 * 64) (by omega), w64 (x := permL l 5 * 8) (by omega), w64 (x := permL l 1 * 64 + permL l 5 * 8) (by omega), w64 (by omega)]
/- FromMode. -/
theorem and7_any (x : Int) : Go.bits .and .i64 x 7 = x % 8 := by
  have h : (Go.bits .and .i64 x 7) = IntKind.i64.wrap (((BitVec.ofInt 64 x).toNat &&& 7 : Nat) : Int) := by
    unfold Go.bits
    simp only [BitVec.toNat_and]
    rfl
  rw [h, BitVec.toNat_ofInt, show (7 : Nat) = 2 ^ 3 - 1 from rfl, Nat.and_two_pow_sub_one_eq_mod, IntKind.wrap_i64]
  omega
theorem and511_any (x : Int) : Go.bits .and .i64 x 511 = x % 512 := by
  have h : (Go.bits .and .i64 x 511) = IntKind.i64.wrap (((BitVec.ofInt 64 x).toNat &&& 511 : Nat) : Int) := by
    unfold Go.bits
    simp only [BitVec.toNat_and]
    rfl
  rw [h, BitVec.toNat_ofInt, show (511 : Nat) = 2 ^ 9 - 1 from rfl, Nat.and_two_pow_sub_one_eq_mod, IntKind.wrap_i64]
  omega
def fromModeL (x : Int) : List Ace := [⟨1, 0, x / 64 % 8⟩, ⟨3, 0, x / 8 % 8⟩, ⟨6, 0, x % 8⟩]
theorem from_any (x : Int) : acl_From.f x = some (fromModeL x) := by
  unfold acl_From.f fromModeL
  rw [and511_any, and7_any, and7_any, show x % 512 / 64 = x / 64 % 8 from by omega, show x % 512 / 8 % 8 = x / 8 % 8 from by omega, show x % 512 % 8 = x % 8 from by omega]
theorem fromMode_any (x : Int) : gripsackref9_FromMode.f x = some (fromModeL x) := by
  unfold gripsackref9_FromMode.f fromModeL
  rw [and7_any, and7_any, and7_any]
end Go.Proofs.YtejgnnhmeolphaaDoor
