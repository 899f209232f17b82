/- float64: numbers that are so many 65536ths, exactly. -/
import Derived.Test.YtfdfpgkfhcmlcaaDoorFloatFrom
set_option linter.unusedVariables false
set_option linter.unusedSimpArgs false
namespace Go.Proofs.YtfdfpgkfhcmlcaaDoor
open Ieee

/-- The word b is v 65536ths. -/
def Val (b : Nat) (v : Int) : Prop := ∃ s m p, double.read b = .number s m p ∧ -1074 ≤ p ∧ p ≤ -16 ∧ V s m p * 65536 = v * (SC : Int)
theorem SC_pos_int : (0 : Int) < (SC : Int) := Int.ofNat_lt.2 S_pos
theorem SC_split (a b : Nat) (h : a + b = 1074) : SC = 2 ^ a * 2 ^ b := by rw [SC_of (a + b) h, Nat.pow_add]
/-- Written from its exact value: just that. -/
theorem near_val (s : Bool) (x : Nat) (base : Int) (v : Nat) (hv : v < 9007199254740992) (hb : -1074 ≤ base) (hb2 : base ≤ -16) (h : A x base * 65536 = v * SC) :
    ∃ m p, double.read (double.nearest s x base) = .number s m p ∧ -1074 ≤ p ∧ p ≤ -16 ∧ A m p * 65536 = v * SC := by
  rcases Nat.eq_zero_or_pos v with e | e
  · subst e
    have hx : x = 0 := by
      rw [Nat.zero_mul] at h
      have h1 : A x base = 0 := by omega
      rcases Nat.mul_eq_zero.1 h1 with h1 | h1
      · exact h1
      · exact absurd h1 (Nat.ne_of_gt (Nat.pow_pos (by decide)))
    subst hx
    exact ⟨0, -1074, near_zero s base, by omega, by omega, by simp [A]⟩
  · have hx : x = v * 2 ^ (-16 - base).toNat := by
      unfold A at h
      have hs : SC = 2 ^ (-16 - base).toNat * (2 ^ (base + 1074).toNat * 65536) := by
        obtain ⟨e74, he74⟩ : ∃ e, e = 1074 := ⟨_, rfl⟩
        rw [show (65536 : Nat) = 2 ^ 16 by decide, ← Nat.pow_add, ← Nat.pow_add, SC_of e74 he74]
        congr 1
        omega
      rw [hs, ← Nat.mul_assoc v, Nat.mul_assoc x] at h
      exact Nat.eq_of_mul_eq_mul_right (Nat.mul_pos (Nat.pow_pos (by decide)) (by decide)) h
    have hl : v.log2 ≤ 52 := by
      have := (Nat.log2_lt (by omega : v ≠ 0) (k := 53)).2 (by simpa using hv)
      omega
    have he := exact s v (-16 - base).toNat (-16) e hv (by omega) (by omega)
    rw [← hx, show (-16 : Int) - ((-16 - base).toNat : Int) = base by omega] at he
    refine ⟨_, _, he, by omega, by omega, ?_⟩
    unfold A
    rw [SC_split (1058) 16 rfl]
    rw [Nat.mul_assoc v, ← Nat.pow_add, show 52 - v.log2 + (-16 + (v.log2 : Int) - 52 + 1074).toNat = 1058 by omega, show (65536 : Nat) = 2 ^ 16 by decide, Nat.mul_assoc]
theorem val_mk (s : Bool) (m : Nat) (p : Int) (b : Nat) (v : Int) (h : double.read b = .number s m p) (hp : -1074 ≤ p) (hp2 : p ≤ -16) (hA : A m p * 65536 = v.natAbs * SC) (hs : s = decide (v < 0) ∨ v = 0) : Val b v := by
  refine ⟨s, m, p, h, hp, hp2, ?_⟩
  have e : ((A m p : Nat) : Int) * 65536 = (v.natAbs : Int) * (SC : Int) := by
    have h2 : ((A m p * 65536 : Nat) : Int) = ((v.natAbs * SC : Nat) : Int) := by rw [hA]
    rw [Int.natCast_mul, Int.natCast_mul] at h2
    exact h2
  unfold V
  rcases hs with rfl | rfl
  · by_cases hv : v < 0
    · rw [if_pos (by simpa using hv), Int.neg_mul, e, ← Int.neg_mul]
      congr 1; omega
    · rw [if_neg (by simpa using hv), e]
      congr 1; omega
  · have : A m p = 0 := by
      rw [Int.natAbs_zero, Nat.zero_mul] at hA
      omega
    rw [this]; cases s <;> simp
theorem val_int (n : Int) (h : n.natAbs < 68719476736) : Val (floatOfInt .f64 n) (65536 * n) := by
  rw [floatOfInt_eq]
  rcases Nat.eq_zero_or_pos n.natAbs with e | e
  · rw [e]
    have : n = 0 := by omega
    subst this
    exact val_mk _ 0 (-1074) _ _ (near_zero _ 0) (by omega) (by omega) (by simp [A]) (.inr (by omega))
  · have hl : n.natAbs.log2 < 36 := (Nat.log2_lt (by omega)).2 (by simpa using h)
    have he := exact (decide (n < 0)) n.natAbs 0 0 e (by omega) (by omega) (by omega)
    rw [Nat.pow_zero, Nat.mul_one] at he
    refine val_mk _ _ _ _ _ he (by omega) (by omega) ?_ (.inl ?_)
    · unfold A
      obtain ⟨e74, he74⟩ : ∃ e, e = 1074 := ⟨_, rfl⟩
      rw [SC_of e74 he74, Nat.mul_assoc n.natAbs, ← Nat.pow_add, show 52 - n.natAbs.log2 + ((0 : Int) + (n.natAbs.log2 : Int) - 52 + 1074).toNat = e74 by omega]
      rw [show (65536 * n).natAbs = 65536 * n.natAbs by omega]
      generalize 2 ^ e74 = z
      rw [Nat.mul_comm (n.natAbs * z), Nat.mul_assoc]
    · congr 1
      apply propext
      omega
theorem sum_core (s t : Bool) (m n : Nat) (p q a b : Int) (h2 : -1074 ≤ p) (g2 : -1074 ≤ q) (h3 : p ≤ -16) (g3 : q ≤ -16) (h4 : V s m p * 65536 = a * (SC : Int)) (g4 : V t n q * 65536 = b * (SC : Int)) (h : (a + b).natAbs < 9007199254740992) :
    ∃ r, ((Datum.number s m p).sum (.number t n q)).map double.write = some r ∧ Val r (a + b) := by
  obtain ⟨z, hz, hv⟩ := sum_num s t m n p q h2 g2
  have e : ((Datum.number s m p).sum (.number t n q)).map double.write = some (double.nearest (if z = 0 then s && t else z < 0) z.natAbs (min p q)) := by
    rw [hz]
    rfl
  have hzv : z * ((2 ^ (min p q + 1074).toNat : Nat) : Int) * 65536 = (a + b) * (SC : Int) := by rw [hv, Int.add_mul, h4, g4, Int.add_mul]
  have hA : A z.natAbs (min p q) * 65536 = (a + b).natAbs * SC := by
    have := congrArg Int.natAbs hzv
    rw [Int.natAbs_mul, Int.natAbs_mul, Int.natAbs_mul, Int.natAbs_natCast, Int.natAbs_natCast] at this
    exact this
  obtain ⟨mr, pr, hr, hp1, hp2, hAr⟩ := near_val (if z = 0 then s && t else z < 0) z.natAbs (min p q) _ h (by omega) (by omega) hA
  refine ⟨_, e, val_mk _ mr pr _ _ hr hp1 hp2 hAr ?_⟩
  have hS := SC_pos_int
  have hP : (0 : Int) < ((2 ^ (min p q + 1074).toNat : Nat) : Int) := Int.ofNat_lt.2 (Nat.pow_pos (by decide))
  by_cases hz0 : z = 0
  · right
    rw [hz0, Int.zero_mul, Int.zero_mul] at hzv
    rcases Int.mul_eq_zero.1 hzv.symm with e | e
    · exact e
    · omega
  · left
    rw [if_neg hz0]
    congr 1
    apply propext
    have h1 : z < 0 ↔ z * ((2 ^ (min p q + 1074).toNat : Nat) : Int) * 65536 < 0 := by
      constructor
      · intro hneg
        have := Int.mul_neg_of_neg_of_pos hneg hP
        omega
      · intro hneg
        by_cases h0 : 0 ≤ z
        · have := Int.mul_nonneg h0 (Int.le_of_lt hP)
          omega
        · omega
    have h2 : a + b < 0 ↔ (a + b) * (SC : Int) < 0 := by
      constructor
      · intro hneg; exact Int.mul_neg_of_neg_of_pos hneg hS
      · intro hneg
        by_cases h0 : 0 ≤ a + b
        · have := Int.mul_nonneg h0 (Int.le_of_lt hS)
          omega
        · omega
    rw [h1, h2, hzv]
theorem val_sum (x y : Nat) (a b : Int) (hx : Val x a) (hy : Val y b) (h : (a + b).natAbs < 9007199254740992) : ∃ r, floatBits .add .f64 x y = some r ∧ Val r (a + b) := by
  obtain ⟨s, m, p, h1, h2, h3, h4⟩ := hx
  obtain ⟨t, n, q, g1, g2, g3, g4⟩ := hy
  obtain ⟨r, hr, hv⟩ := sum_core s t m n p q a b h2 g2 h3 g3 h4 g4 h
  refine ⟨r, ?_, hv⟩
  show ((double.read x).sum (double.read y)).map double.write = _
  rw [h1, g1, hr]
theorem val_sub (x y : Nat) (a b : Int) (hx : Val x a) (hy : Val y b) (h : (a - b).natAbs < 9007199254740992) : Val (rF x y) (a - b) := by
  obtain ⟨s, m, p, h1, h2, h3, h4⟩ := hx
  obtain ⟨t, n, q, g1, g2, g3, g4⟩ := hy
  obtain ⟨r, hr, hv⟩ := sum_core s (!t) m n p q a (-b) h2 g2 h3 g3 h4 (by rw [V_flip, Int.neg_mul, g4, Int.neg_mul]) (by rw [← Int.sub_eq_add_neg]; exact h)
  rw [← Int.sub_eq_add_neg] at hv
  have e : rF x y = r := by
    unfold rF Format.sub
    rw [h1, g1]
    show (((Datum.number s m p).sum (.number (!t) n q)).map double.write).getD 0 = r
    rw [hr]
    rfl
  rw [e]; exact hv
theorem read_65536 : double.read 4679240012837945344 = .number false 4503599627370496 (-36) := by decide
theorem quot_core (K : Nat) (hK : K.log2 = 52) (m : Nat) (hm : m.log2 = 52) (hd : ∃ c, K = 2 ^ 52 * 1 ∧ c = m) (i : Int) : (Datum.number false m i).quotient 54 (.number false K (-36)) = some (.number false (2 * (m * 4)) (i + 36 - 54 - 1)) := by
  obtain ⟨_, hk, _⟩ := hd
  have hK0 : K ≠ 0 := by rw [hk]; decide
  unfold Datum.quotient
  simp only
  rw [if_neg hK0, hK, hm, shl]
  have e1 : 54 + 52 - 52 = 54 := rfl
  rw [e1]
  have e2 : m * 2 ^ 54 = m * 4 * K := by rw [hk]; omega
  have hKp : 0 < K := by omega
  rw [e2, Nat.mul_div_cancel _ hKp, Nat.mul_mod_left]
  have e3 : i - -36 - ((54 : Nat) : Int) - 1 = i + 36 - 54 - 1 := by omega
  rw [e3]
  rfl
theorem val_quo (k : Nat) (h : k < 68719476736) : ∃ q, floatBits .quo .f64 (floatOfInt .f64 (k : Int)) 4679240012837945344 = some q ∧ Val q (k : Int) := by
  rcases Nat.eq_zero_or_pos k with e | e
  · subst e
    refine ⟨0, by decide, val_mk false 0 (-1074) 0 _ (by decide) (by decide) (by decide) ?_ (.inr rfl)⟩
    unfold A
    rw [Nat.zero_mul, Nat.zero_mul, show (((0 : Nat) : Int)).natAbs = 0 from rfl, Nat.zero_mul]
  · have hl : k.log2 < 36 := (Nat.log2_lt (by omega)).2 (by simpa using h)
    have he := exact false k 0 0 e (by omega) (by omega) (by omega)
    rw [Nat.pow_zero, Nat.mul_one] at he
    have ef : floatOfInt .f64 (k : Int) = double.nearest false k (0 - ((0 : Nat) : Int)) := by
      rw [floatOfInt_eq]
      have : decide ((k : Int) < 0) = false := by simp
      rw [this]
      rfl
    have hml : (k * 2 ^ (52 - k.log2)).log2 = 52 := by rw [log2_mul_pow k _ e]; omega
    have hq := quot_core 4503599627370496 (by rw [Nat.log2_eq_iff (by decide)]; decide) (k * 2 ^ (52 - k.log2)) hml ⟨_, by decide, rfl⟩ (0 + (k.log2 : Int) - 52)
    obtain ⟨mr, pr, hr, hp1, hp2, hA⟩ := near_val false (2 * (k * 2 ^ (52 - k.log2) * 4)) (0 + (k.log2 : Int) - 52 + 36 - 54 - 1) k (by omega) (by omega) (by omega) (by
      unfold A
      have h1 : 2 * (k * 2 ^ (52 - k.log2) * 4) = k * (2 ^ (52 - k.log2) * 2 ^ 3) := by
        generalize 2 ^ (52 - k.log2) = z
        rw [show (2 : Nat) ^ 3 = 8 by decide, ← Nat.mul_assoc k]
        generalize k * z = u
        omega
      obtain ⟨e74, he74⟩ : ∃ e, e = 1074 := ⟨_, rfl⟩
      rw [h1, SC_of e74 he74, Nat.mul_assoc k, ← Nat.pow_add, ← Nat.pow_add, Nat.mul_assoc k, show (65536 : Nat) = 2 ^ 16 by decide, ← Nat.pow_add]
      congr 2
      omega)
    refine ⟨_, ?_, val_mk false mr pr _ _ hr hp1 hp2 (by rw [hA, Int.natAbs_natCast]) (.inl (by simp))⟩
    rw [ef]
    show ((double.read (double.nearest false k (0 - ((0 : Nat) : Int)))).quotient 54 (double.read 4679240012837945344)).map double.write = _
    rw [he, read_65536, hq]
    rfl
theorem mul_core (K : Nat) (hK : K = 1000000000 * 2 ^ 23) (s : Bool) (m : Nat) (p : Int) (v : Nat) (hv : v < 65536) (hm : m < 9007199254740992) (hp : -1074 ≤ p) (hp2 : p ≤ -16) (hA : A m p * 65536 = v * SC) :
    ∃ mq pq, double.read (double.nearest s (m * K) (p + -23)) = .number s mq pq ∧ -1074 ≤ pq ∧ A mq pq * 65536 = v * 1000000000 * SC := by
  rcases Nat.eq_zero_or_pos v with e | e
  · subst e
    have hm0 : m = 0 := by
      rw [Nat.zero_mul] at hA
      have h1 : A m p = 0 := by omega
      rcases Nat.mul_eq_zero.1 h1 with h1 | h1
      · exact h1
      · exact absurd h1 (Nat.ne_of_gt (Nat.pow_pos (by decide)))
    subst hm0
    rw [Nat.zero_mul]
    refine ⟨0, -1074, near_zero s _, by omega, ?_⟩
    unfold A
    rw [Nat.zero_mul, Nat.zero_mul, Nat.zero_mul]
  · have hx : m = v * 2 ^ (-16 - p).toNat := by
      unfold A at hA
      have hs : SC = 2 ^ (-16 - p).toNat * (2 ^ (p + 1074).toNat * 65536) := by
        obtain ⟨e74, he74⟩ : ∃ e, e = 1074 := ⟨_, rfl⟩
        rw [show (65536 : Nat) = 2 ^ 16 by decide, ← Nat.pow_add, ← Nat.pow_add, SC_of e74 he74]
        congr 1
        omega
      rw [hs, ← Nat.mul_assoc v, Nat.mul_assoc m] at hA
      exact Nat.eq_of_mul_eq_mul_right (Nat.mul_pos (Nat.pow_pos (by decide)) (by decide)) hA
    have hpl : -69 ≤ p := by
      have h1 : 2 ^ (-16 - p).toNat ≤ m := by rw [hx]; exact Nat.le_mul_of_pos_left _ e
      have h2 : 2 ^ (-16 - p).toNat < 2 ^ 53 := Nat.lt_of_le_of_lt h1 hm
      have := (Nat.pow_lt_pow_iff_right (by decide : 1 < 2)).1 h2
      omega
    refine (fun ⟨mq, pq, h1, h2, h3, h4⟩ => ⟨mq, pq, h1, h2, h4⟩) (near_val s (m * K) (p + -23) (v * 1000000000) (by omega) (by omega) (by omega) ?_)
    have h5 : A (m * K) (p + -23) = A m p * 1000000000 := by
      unfold A
      have h6 : 2 ^ (p + 1074).toNat = 2 ^ 23 * 2 ^ (p + -23 + 1074).toNat := by
        rw [← Nat.pow_add]
        congr 1
        omega
      rw [h6, hK]
      generalize 2 ^ (p + -23 + 1074).toNat = z
      generalize 2 ^ 23 = y
      rw [Nat.mul_assoc m, Nat.mul_assoc m, Nat.mul_assoc 1000000000, Nat.mul_comm (y * z)]
    rw [h5, Nat.mul_assoc, Nat.mul_comm 1000000000 65536, ← Nat.mul_assoc, hA, Nat.mul_assoc, Nat.mul_comm SC, Nat.mul_assoc]
theorem num_lt {b : Nat} {s : Bool} {m : Nat} {p : Int} (h : double.read b = .number s m p) : m < 9007199254740992 := by
  rcases stands b with ⟨s, t, g⟩ | ⟨s, g⟩ | ⟨s, m, p, g, hm, hp, hq, ht⟩
  · rw [g] at h; cases h
  · rw [g] at h; cases h
  · rw [g] at h; injection h with _ h2 _; omega
theorem val_nano_of (K : Nat) (hB : double.read billion = .number false K (-23)) (hK : K = 1000000000 * 2 ^ 23) (r : Nat) (v : Nat) (hv : v < 65536) (h : Val r (v : Int)) : nanoF (qF r) = ((v * 1000000000 / 65536 : Nat) : Int) := by
  obtain ⟨s, m, p, h1, h2, h3, h4⟩ := h
  have hA : A m p * 65536 = v * SC := by
    have := congrArg Int.natAbs h4
    rw [Int.natAbs_mul, Int.natAbs_mul, V_abs, Int.natAbs_natCast, Int.natAbs_natCast] at this
    exact this
  obtain ⟨mq, pq, k1, k2, k3⟩ := mul_core K hK s m p v hv (num_lt h1) h2 h3 hA
  have hq : qF r = double.nearest (s ^^ false) (m * K) (p + -23) := by
    unfold qF Format.mul
    rw [h1, hB]
    rfl
  rw [Bool.xor_false] at hq
  rw [← hq] at k1
  have hdiv : A mq pq / SC = v * 1000000000 / 65536 := by
    rw [← Nat.mul_div_mul_right (A mq pq) SC (by decide : 0 < 65536), k3, Nat.mul_comm SC 65536, Nat.mul_div_mul_right _ _ S_pos]
  have hb : v * 1000000000 / 65536 < 1000000000 := by omega
  have := toIntVal _ s mq pq k1 k2 (by rw [hdiv]; omega)
  unfold nanoF
  rw [this, Option.getD_some, hdiv]
  cases s with
  | false => rfl
  | true =>
    have hv0 : v = 0 := by
      have h5 : V true m p * 65536 ≤ 0 := by
        rw [V_true]
        generalize A m p = a
        omega
      rw [h4] at h5
      by_cases e : v = 0
      · exact e
      · have := Int.mul_pos (show (0 : Int) < (v : Int) by omega) SC_pos_int
        omega
    subst hv0
    rfl
theorem val_nano (r : Nat) (v : Nat) (hv : v < 65536) (h : Val r (v : Int)) : nanoF (qF r) = ((v * 1000000000 / 65536 : Nat) : Int) :=
  val_nano_of _ read_billion (by decide) r v hv h
theorem min_nano (k : Nat) (hk : k < 65536) : min (((k * 1000000000 / 65536 : Nat)) : Int) 999999999 = (k : Int) * 1000000000 / 65536 := by
  have h1 : ((k * 1000000000 / 65536 : Nat) : Int) = (k : Int) * 1000000000 / 65536 := by rw [Int.natCast_ediv, Int.natCast_mul]; rfl
  rw [h1]
  generalize hx : (k : Int) * 1000000000 = x
  have hx2 : x < 65536000000000 := by omega
  omega
/-- The time of so many 65536ths. -/
theorem from_val (b : Nat) (v : Int) (h : Val b v) (hv : v.natAbs < 562949953421312) : fromFT b = some (v / 65536, (v % 65536 * 1000000000) / 65536) := by
  obtain ⟨s, m, p, h1, h2, h3, h4⟩ := h
  obtain ⟨hd1, hd2⟩ := fl_dist s m p
  have hS := SC_pos_int
  have hA : A m p * 65536 = v.natAbs * SC := by
    have := congrArg Int.natAbs h4
    rw [Int.natAbs_mul, Int.natAbs_mul, V_abs, Int.natAbs_natCast] at this
    exact this
  have hlim : A m p ≤ 1099511627776 * SC := by
    have h5 : v.natAbs * SC ≤ 562949953421312 * SC := Nat.mul_le_mul_right _ (by omega)
    have h6 : 562949953421312 * SC ≤ 1099511627776 * SC * 65536 := by generalize SC = z; omega
    omega
  have hsec : secF s m p = v / 65536 ∧ v - 65536 * secF s m p < 65536 ∧ 0 ≤ v - 65536 * secF s m p := by
    generalize secF s m p = c at *
    have e1 : (V s m p - c * (SC : Int)) * 65536 = (v - 65536 * c) * (SC : Int) := by
      rw [Int.sub_mul, h4, Int.sub_mul, Int.mul_assoc c, Int.mul_comm (SC : Int) 65536, ← Int.mul_assoc c, Int.mul_comm c 65536]
    have hx0 : 0 ≤ (v - 65536 * c) * (SC : Int) := by rw [← e1]; omega
    have hx1 : (v - 65536 * c) * (SC : Int) < 65536 * (SC : Int) := by rw [← e1]; omega
    have hlt := Int.lt_of_mul_lt_mul_right hx1 (Int.le_of_lt hS)
    have hge : 0 ≤ v - 65536 * c := by
      by_cases e : 0 ≤ v - 65536 * c
      · exact e
      · have := Int.mul_neg_of_neg_of_pos (show v - 65536 * c < 0 by omega) hS
        omega
    omega
  obtain ⟨hs1, hs2, hs3⟩ := hsec
  have hc : Val (cF s m p) (65536 * secF s m p) := by
    have hsb : (secF s m p).natAbs < 68719476736 := by rw [hs1]; omega
    unfold cF
    have hfl : flT s m p = (secF s m p).natAbs := by unfold secF; cases s <;> simp
    rcases Nat.eq_zero_or_pos (flT s m p) with e | e
    · rw [e]
      refine val_mk s 0 (-1074) _ _ (near_zero s 0) (by omega) (by omega) ?_ (.inr (by omega))
      rw [show (65536 * secF s m p).natAbs = 0 by omega]
      unfold A
      rw [Nat.zero_mul, Nat.zero_mul, Nat.zero_mul]
    · have := val_int (secF s m p) hsb
      rw [floatOfInt_eq, ← hfl] at this
      have es : decide (secF s m p < 0) = s := by
        unfold secF
        cases s <;> simp <;> omega
      rw [es] at this
      exact this
  have hr := val_sub b (cF s m p) v (65536 * secF s m p) ⟨s, m, p, h1, h2, h3, h4⟩ hc (by omega)
  obtain ⟨k, hk⟩ : ∃ k : Nat, v - 65536 * secF s m p = k := ⟨(v - 65536 * secF s m p).toNat, by omega⟩
  rw [hk] at hr
  have hn := val_nano _ k (by omega) hr
  unfold fromFT
  rw [h1]
  simp only
  rw [if_pos hlim, hn, hs1]
  have hmod : v % 65536 = k := by omega
  have hmin := min_nano k (by omega)
  rw [hmod, hmin]
end Go.Proofs.YtfdfpgkfhcmlcaaDoor
