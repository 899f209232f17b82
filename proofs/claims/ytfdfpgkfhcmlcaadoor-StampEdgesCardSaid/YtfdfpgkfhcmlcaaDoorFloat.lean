/- float64: numbers as whole multiples of the least place; what is written exactly; sums, orders, whole parts; a float as a time, as the program and as the reference reckon it. -/
import Derived.Laws.FloatArith
set_option linter.unusedVariables false
set_option linter.unusedSimpArgs false
namespace Go.Proofs.YtfdfpgkfhcmlcaaDoor
open Ieee

/-- What a number is, in units of the least place. -/
def A (m : Nat) (p : Int) : Nat := m * 2 ^ (p + 1074).toNat
def V (s : Bool) (m : Nat) (p : Int) : Int := if s then -(A m p : Int) else (A m p : Int)
theorem shl (m k : Nat) : m <<< k = m * 2 ^ k := Nat.shiftLeft_eq m k
theorem cut_exact (way : Toward) (s : Bool) (K drop : Nat) (hK : 0 < K) : way.cut s (K * 2 ^ drop) drop = K := by
  have hlog : drop ≤ (K * 2 ^ drop).log2 := by
    rw [Nat.le_log2 (by exact Nat.ne_of_gt (Nat.mul_pos hK (Nat.pow_pos (by decide))))]
    exact Nat.le_mul_of_pos_left _ hK
  unfold Toward.cut
  rw [Nat.min_eq_left (by omega), shl, Nat.one_mul]
  have hp : 0 < 2 ^ drop := Nat.pow_pos (by decide)
  simp only [Nat.mul_div_cancel _ hp, Nat.mul_mod_left]
  cases way <;> simp
theorem log2_mul_pow (m j : Nat) (hm : 0 < m) : (m * 2 ^ j).log2 = m.log2 + j := by
  have h1 : m ≠ 0 := by omega
  have hp : 0 < 2 ^ j := Nat.pow_pos (by decide)
  have h0 : m * 2 ^ j ≠ 0 := Nat.ne_of_gt (Nat.mul_pos hm hp)
  rw [Nat.log2_eq_iff h0]
  have h2 := (Nat.log2_eq_iff h1).1 (rfl : m.log2 = m.log2)
  constructor
  · rw [Nat.pow_add]; exact Nat.mul_le_mul_right _ h2.1
  · rw [show m.log2 + j + 1 = (m.log2 + 1) + j by omega, Nat.pow_add]; exact Nat.mul_lt_mul_of_pos_right h2.2 hp
theorem dbl_facts : double.signWeight = 9223372036854775808 ∧ double.binade = 4503599627370496 ∧ double.infRung = 9218868437227405312 ∧ double.leastPlace = -1074 ∧ double.fractionBits = 52 := by
  refine ⟨by decide, by decide, by decide, by decide, rfl⟩
theorem read_word (s : Bool) (r : Nat) (hr : r < 9218868437227405312) : double.read (double.word s r) =
    if r < 4503599627370496 then .number s r (-1074) else .number s (4503599627370496 + r % 4503599627370496) (-1074 + ((r / 4503599627370496 - 1 : Nat) : Int)) := by
  obtain ⟨h1, h2, h3, h4, h5⟩ := dbl_facts
  unfold Format.read Format.word
  rw [h1, h2, h3, h4]
  cases s
  · simp only [Bool.false_eq_true, if_false]
    rw [show r / 9223372036854775808 = 0 by omega, show r % 9223372036854775808 = r by omega, if_pos hr]
    rfl
  · simp only [if_true]
    rw [show (9223372036854775808 + r) / 9223372036854775808 = 1 by omega, show (9223372036854775808 + r) % 9223372036854775808 = r by omega, if_pos hr]
    rfl
/-- A number that the format has is written as it is. -/
theorem exact (s : Bool) (m j : Nat) (p : Int) (hm : 0 < m) (h53 : m < 9007199254740992) (hp : -1022 ≤ p) (ht : p + m.log2 ≤ 1023) :
    double.read (double.nearest s (m * 2 ^ j) (p - j)) = .number s (m * 2 ^ (52 - m.log2)) (p + m.log2 - 52) := by
  obtain ⟨h1, h2, h3, h4, h5⟩ := dbl_facts
  have h0 : m ≠ 0 := by omega
  have hl : m.log2 ≤ 52 := by
    have := (Nat.log2_lt h0 (k := 53)).2 (by simpa using h53)
    omega
  have hb := (Nat.log2_eq_iff h0).1 (rfl : m.log2 = m.log2)
  have hpj : 0 < 2 ^ j := Nat.pow_pos (by decide)
  have hn : ¬ m * 2 ^ j = 0 := Nat.ne_of_gt (Nat.mul_pos hm hpj)
  unfold Format.nearest
  rw [if_neg hn, h2, h3, h4, h5, log2_mul_pow m j hm]
  have hlast : max (p - (j : Int) + ((m.log2 + j : Nat) : Int) - ((52 : Nat) : Int)) (-1074) = p + m.log2 - 52 := by omega
  simp only [hlast]
  have hkept : Toward.even.cut s ((m * 2 ^ j) <<< (p - (j : Int) - (p + m.log2 - 52)).toNat) (p + m.log2 - 52 - (p - (j : Int))).toNat = m * 2 ^ (52 - m.log2) := by
    have hpos : 0 < m * 2 ^ (52 - m.log2) := Nat.mul_pos hm (Nat.pow_pos (by decide))
    rw [shl]
    by_cases hc : j ≤ 52 - m.log2
    · rw [show (p + m.log2 - 52 - (p - (j : Int))).toNat = 0 by omega, show (p - (j : Int) - (p + m.log2 - 52)).toNat = 52 - m.log2 - j by omega]
      have := cut_exact .even s (m * 2 ^ (52 - m.log2)) 0 hpos
      rw [Nat.pow_zero, Nat.mul_one] at this
      rw [Nat.mul_assoc, ← Nat.pow_add, show j + (52 - m.log2 - j) = 52 - m.log2 by omega]
      exact this
    · rw [show (p - (j : Int) - (p + m.log2 - 52)).toNat = 0 by omega, Nat.pow_zero, Nat.mul_one]
      have := cut_exact .even s (m * 2 ^ (52 - m.log2)) (j - (52 - m.log2)) hpos
      rw [Nat.mul_assoc, ← Nat.pow_add, show 52 - m.log2 + (j - (52 - m.log2)) = j by omega] at this
      rw [show (p + m.log2 - 52 - (p - (j : Int))).toNat = j - (52 - m.log2) by omega]
      exact this
  rw [hkept]
  have hk1 : 4503599627370496 ≤ m * 2 ^ (52 - m.log2) := by
    calc 4503599627370496 = 2 ^ m.log2 * 2 ^ (52 - m.log2) := by rw [← Nat.pow_add, show m.log2 + (52 - m.log2) = 52 by omega]
      _ ≤ _ := Nat.mul_le_mul_right _ hb.1
  have hk2 : m * 2 ^ (52 - m.log2) < 9007199254740992 := by
    calc _ < 2 ^ (m.log2 + 1) * 2 ^ (52 - m.log2) := Nat.mul_lt_mul_of_pos_right hb.2 (Nat.pow_pos (by decide))
      _ = 9007199254740992 := by rw [← Nat.pow_add, show m.log2 + 1 + (52 - m.log2) = 53 by omega]
  generalize m * 2 ^ (52 - m.log2) = K at *
  obtain ⟨l, hL⟩ : ∃ l : Nat, (p + m.log2 - 52 - -1074).toNat = l := ⟨_, rfl⟩
  have hl2 : p + m.log2 - 52 = (l : Int) - 1074 := by omega
  rw [hL, hl2]
  have hlt : l * 4503599627370496 + K < 9218868437227405312 := by omega
  rw [Nat.min_eq_left (by omega), read_word _ _ hlt, if_neg (by omega)]
  congr 1
  · omega
  · omega
theorem cut_le (s : Bool) (n drop L : Nat) (h : n.log2 ≤ L + drop) : Toward.even.cut s n drop ≤ 2 ^ (L + 1) := by
  have hp : 0 < 2 ^ (L + 1) := Nat.pow_pos (by decide)
  by_cases hn : n = 0
  · subst hn
    unfold Toward.cut
    rw [shl, Nat.one_mul]
    have hp2 : 0 < 2 ^ min drop (Nat.log2 0 + 2) := Nat.pow_pos (by decide)
    simp
  · have hb := (Nat.log2_eq_iff hn).1 (rfl : n.log2 = n.log2)
    unfold Toward.cut
    rw [shl, Nat.one_mul]
    by_cases hc : drop ≤ n.log2 + 1
    · rw [Nat.min_eq_left (by omega)]
      have hlow : n / 2 ^ drop < 2 ^ (L + 1) := by
        rw [Nat.div_lt_iff_lt_mul (Nat.pow_pos (by decide)), ← Nat.pow_add]
        exact Nat.lt_of_lt_of_le hb.2 (Nat.pow_le_pow_right (by decide) (by omega))
      simp only
      have : ∀ b : Bool, b.toNat ≤ 1 := by intro b; cases b <;> decide
      exact Nat.le_trans (Nat.add_le_add_left (this _) _) hlow
    · have hmin : min drop (n.log2 + 2) = n.log2 + 2 := by omega
      rw [hmin]
      have h2 : n < 2 ^ (n.log2 + 2) := Nat.lt_of_lt_of_le hb.2 (Nat.pow_le_pow_right (by decide) (by omega))
      have h3 : 2 * n < 2 ^ (n.log2 + 2) := by rw [show n.log2 + 2 = (n.log2 + 1) + 1 by omega, Nat.pow_succ]; omega
      simp only
      rw [Nat.div_eq_of_lt h2, Nat.mod_eq_of_lt h2]
      have e1 : decide (2 ^ (n.log2 + 2) < 2 * n) = false := by simp; omega
      have e2 : (2 ^ (n.log2 + 2) == 2 * n) = false := by simp; omega
      rw [e1, e2]
      simp
theorem near_le (s : Bool) (m : Nat) (p k : Int) (hm : 0 < m) (h : p + m.log2 < k) (hk : -1021 ≤ k) (hk2 : k ≤ 1023) :
    ∃ m' p', double.read (double.nearest s m p) = .number s m' p' ∧ m' < 9007199254740992 ∧ -1074 ≤ p' ∧ (m' = 0 ∨ p' + m'.log2 ≤ k) := by
  obtain ⟨h1, h2, h3, h4, h5⟩ := dbl_facts
  have h0 : m ≠ 0 := by omega
  unfold Format.nearest
  rw [if_neg h0, h2, h3, h4, h5]
  simp only
  obtain ⟨last, hlast⟩ : ∃ last, max (p + (m.log2 : Int) - ((52 : Nat) : Int)) (-1074) = last := ⟨_, rfl⟩
  rw [hlast]
  have hkept : Toward.even.cut s (m <<< (p - last).toNat) (last - p).toNat ≤ 9007199254740992 := by
    have := cut_le s (m <<< (p - last).toNat) (last - p).toNat 52 (by
      rw [shl, log2_mul_pow m _ hm]; omega)
    simpa using this
  generalize Toward.even.cut s (m <<< (p - last).toNat) (last - p).toNat = K at *
  obtain ⟨l, hL⟩ : ∃ l : Nat, (last - -1074).toNat = l := ⟨_, rfl⟩
  rw [hL]
  obtain ⟨r, hr⟩ : ∃ r, l * 4503599627370496 + K = r := ⟨_, rfl⟩
  have hl : (l : Int) = last + 1074 := by omega
  have hlk : (l : Int) ≤ k + 1021 ∨ l = 0 := by omega
  have hrk : (r : Int) ≤ (k + 1023) * 4503599627370496 := by omega
  rw [hr, Nat.min_eq_left (by omega), read_word _ _ (by omega)]
  split
  · refine ⟨_, _, rfl, by omega, by omega, ?_⟩
    rcases Nat.eq_zero_or_pos r with e | e
    · exact Or.inl e
    · right
      have : r.log2 < 52 := (Nat.log2_lt (by omega)).2 (by omega)
      omega
  · refine ⟨_, _, rfl, by omega, by omega, ?_⟩
    right
    have e1 : (4503599627370496 + r % 4503599627370496).log2 = 52 := by
      rw [Nat.log2_eq_iff (by omega)]
      omega
    rw [e1]
    omega
theorem near_zero (s : Bool) (p : Int) : double.read (double.nearest s 0 p) = .number s 0 (-1074) := by
  unfold Format.nearest
  rw [if_pos rfl, read_word _ _ (by decide)]
  rfl
/- Orders. -/
theorem signed_scale (s : Bool) (m a b : Nat) : signed s m (a + b) = signed s m a * (2 ^ b : Nat) := by
  unfold signed
  rw [shl, shl, Nat.pow_add, ← Nat.mul_assoc]
  cases s
  · simp [Int.natCast_mul]
  · simp [Int.natCast_mul, Int.neg_mul]
theorem signed_V (s : Bool) (m : Nat) (p b : Int) (hb : -1074 ≤ b) (hp : b ≤ p) : V s m p = signed s m (p - b).toNat * (2 ^ (b + 1074).toNat : Nat) := by
  rw [← signed_scale, show (p - b).toNat + (b + 1074).toNat = (p + 1074).toNat by omega]
  unfold V signed A
  rw [shl]
theorem compare_scale (x y : Int) (k : Nat) : compare (x * (2 ^ k : Nat)) (y * (2 ^ k : Nat)) = compare x y := by
  have hp : (0 : Int) < ((2 ^ k : Nat) : Int) := by exact_mod_cast Nat.pow_pos (by decide)
  rcases Int.lt_trichotomy x y with h | h | h
  · rw [Int.compare_eq_lt.2 h, Int.compare_eq_lt.2 (Int.mul_lt_mul_of_pos_right h hp)]
  · subst h; simp
  · rw [Int.compare_eq_gt.2 h, Int.compare_eq_gt.2 (Int.mul_lt_mul_of_pos_right h hp)]
theorem order_num (s t : Bool) (m n : Nat) (i j : Int) (hi : -1074 ≤ i) (hj : -1074 ≤ j) : (Datum.number s m i).order (.number t n j) = some (compare (V s m i) (V t n j)) := by
  have e1 := signed_V s m i (min i j) (by omega) (by omega)
  have e2 := signed_V t n j (min i j) (by omega) (by omega)
  show some (compare _ _) = _
  rw [e1, e2, compare_scale]
/- Whole numbers of a number. -/
def scOf : Nat → Nat
  | 0 => 1
  | n + 1 => scOf n * 2
theorem scOf_pow : ∀ n, scOf n = 2 ^ n
  | 0 => rfl
  | n + 1 => by rw [scOf, scOf_pow n, Nat.pow_succ]
def SC : Nat := scOf 1074
theorem SC_of (e : Nat) (h : e = 1074) : SC = 2 ^ e := by
  unfold SC
  rw [← h, scOf_pow]
theorem S_pos : 0 < SC := by
  obtain ⟨e74, he74⟩ : ∃ e, e = 1074 := ⟨_, rfl⟩
  rw [SC_of e74 he74]; exact Nat.pow_pos (by decide)
theorem cut_pow (way : Toward) (s : Bool) (n drop : Nat) (hw : way ≠ .even) :
    way.cut s n drop = n / 2 ^ drop + (match way with | .even => 0 | .down => (s && n % 2 ^ drop != 0).toNat | .up => (!s && n % 2 ^ drop != 0).toNat | .zero => 0) := by
  have key : n / 2 ^ min drop (n.log2 + 2) = n / 2 ^ drop ∧ (n % 2 ^ min drop (n.log2 + 2) != 0) = (n % 2 ^ drop != 0) := by
    by_cases hc : drop ≤ n.log2 + 2
    · rw [Nat.min_eq_left hc]; exact ⟨rfl, rfl⟩
    · rw [Nat.min_eq_right (by omega)]
      have h1 : n < 2 ^ (n.log2 + 2) := by
        by_cases hn : n = 0
        · subst hn; decide
        · exact Nat.lt_of_lt_of_le ((Nat.log2_eq_iff hn).1 rfl).2 (Nat.pow_le_pow_right (by decide) (by omega))
      have h2 : n < 2 ^ drop := Nat.lt_of_lt_of_le h1 (Nat.pow_le_pow_right (by decide) (by omega))
      rw [Nat.div_eq_of_lt h1, Nat.div_eq_of_lt h2, Nat.mod_eq_of_lt h1, Nat.mod_eq_of_lt h2]
      exact ⟨rfl, rfl⟩
  unfold Toward.cut
  rw [shl, Nat.one_mul]
  simp only
  rw [key.1, key.2]
  cases way
  · exact absurd rfl hw
  · rfl
  · rfl
  · rfl
theorem cut_A (m : Nat) (p : Int) (hp : -1074 ≤ p) : (m <<< p.toNat) / 2 ^ (-p).toNat = A m p / SC ∧ ((m <<< p.toNat) % 2 ^ (-p).toNat = 0 ↔ A m p % SC = 0) := by
  unfold A
  rw [shl]
  by_cases h : 0 ≤ p
  · obtain ⟨e74, he74⟩ : ∃ e, e = 1074 := ⟨_, rfl⟩
    rw [show (-p).toNat = 0 by omega, show (p + 1074).toNat = p.toNat + e74 by omega, Nat.pow_add, ← Nat.mul_assoc, ← SC_of e74 he74, Nat.pow_zero, Nat.div_one, Nat.mul_div_cancel _ S_pos, Nat.mod_one, Nat.mul_mod_left]
    exact ⟨rfl, Iff.rfl⟩
  · rw [show p.toNat = 0 by omega, Nat.pow_zero, Nat.mul_one]
    have e : (1074 : Nat) = (p + 1074).toNat + (-p).toNat := by omega
    generalize (p + 1074).toNat = a at *
    generalize (-p).toNat = b at *
    rw [SC_of _ e.symm, Nat.pow_add, Nat.mul_comm m (2 ^ a)]
    have hpa : 0 < 2 ^ a := Nat.pow_pos (by decide)
    rw [Nat.mul_div_mul_left _ _ hpa, Nat.mul_mod_mul_left]
    refine ⟨rfl, ?_⟩
    constructor
    · intro h; rw [h, Nat.mul_zero]
    · intro h
      rcases Nat.mul_eq_zero.1 h with h | h
      · omega
      · exact h
theorem toInt_zero (s : Bool) (m : Nat) (p : Int) (hp : -1074 ≤ p) : (Datum.number s m p).toInt .zero = some (if s then -((A m p / SC : Nat) : Int) else ((A m p / SC : Nat) : Int)) := by
  unfold Datum.toInt Datum.integral
  simp only
  rw [cut_pow _ _ _ _ (by decide), (cut_A m p hp).1]
  unfold signed
  rw [shl, Nat.pow_zero, Nat.mul_one]
  rfl
/-- What floor makes of a number. -/
def flT (s : Bool) (m : Nat) (p : Int) : Nat := A m p / SC + (s && A m p % SC != 0).toNat
theorem floor_num (s : Bool) (m : Nat) (p : Int) (hp : -1074 ≤ p) : (Datum.number s m p).integral .down = .number s (flT s m p) 0 := by
  unfold Datum.integral
  simp only
  rw [cut_pow _ _ _ _ (by decide), (cut_A m p hp).1]
  have e : ((m <<< p.toNat) % 2 ^ (-p).toNat != 0) = (A m p % SC != 0) := by
    have := (cut_A m p hp).2
    by_cases h : A m p % SC = 0
    · rw [bne, bne, beq_iff_eq.2 h, beq_iff_eq.2 (this.2 h)]
    · rw [bne, bne, beq_false_of_ne h, beq_false_of_ne (fun e => h (this.1 e))]
  simp only [e]
  rfl
/-- The word of a whole number. -/
theorem read_int (s : Bool) (n : Nat) (hn : n < 9007199254740992) : ∃ m p, double.read (double.nearest s n 0) = .number s m p ∧ -1074 ≤ p ∧ A m p = n * SC := by
  rcases Nat.eq_zero_or_pos n with h | h
  · subst h
    exact ⟨0, -1074, near_zero s 0, by omega, by simp [A]⟩
  · have hl : n.log2 ≤ 52 := by
      have := (Nat.log2_lt (by omega : n ≠ 0) (k := 53)).2 (by simpa using hn)
      omega
    have he := exact s n 0 0 h hn (by omega) (by omega)
    rw [Nat.pow_zero, Nat.mul_one] at he
    refine ⟨_, _, he, by omega, ?_⟩
    unfold A
    obtain ⟨e74, he74⟩ : ∃ e, e = 1074 := ⟨_, rfl⟩
    rw [SC_of e74 he74, Nat.mul_assoc, ← Nat.pow_add]
    congr 2
    omega
/-- What a word stands for. -/
inductive Stands (b : Nat) : Prop where
  | nan (s t) (h : double.read b = .nan s t)
  | inf (s) (h : double.read b = .infinity s)
  | num (s m p) (h : double.read b = .number s m p) (hm : m < 9007199254740992) (hp : -1074 ≤ p) (hq : p = -1074 ∨ 4503599627370496 ≤ m) (ht : p ≤ 971)
theorem stands (b : Nat) : Stands b := by
  obtain ⟨h1, h2, h3, h4, h5⟩ := dbl_facts
  have h : double.read b = double.read b := rfl
  conv at h => rhs; unfold Format.read
  simp only [h1, h2, h3, h4] at h
  have hlt : b % 9223372036854775808 < 9223372036854775808 := Nat.mod_lt _ (by decide)
  generalize b % 9223372036854775808 = r at h hlt
  split at h
  · exact .num _ _ _ h (by omega) (by omega) (Or.inl rfl) (by omega)
  · split at h
    · exact .num _ _ _ h (by omega) (by omega) (Or.inr (by omega)) (by omega)
    · split at h
      · exact .inf _ h
      · exact .nan _ _ h
theorem A_le (m : Nat) (p : Int) (k : Nat) (hp : -1074 ≤ p) (h : m = 0 ∨ p + m.log2 ≤ k) : A m p / SC < 2 ^ (k + 1) := by
  obtain ⟨e74, he74⟩ : ∃ e, e = 1074 := ⟨_, rfl⟩
  rw [Nat.div_lt_iff_lt_mul S_pos, SC_of e74 he74, ← Nat.pow_add]
  rcases Nat.eq_zero_or_pos m with e | e
  · subst e; unfold A; rw [Nat.zero_mul]; exact Nat.pow_pos (by decide)
  · have hb := (Nat.log2_eq_iff (by omega : m ≠ 0)).1 (rfl : m.log2 = m.log2)
    have hk : p + m.log2 ≤ k := by rcases h with h | h; omega; exact h
    unfold A
    calc m * 2 ^ (p + 1074).toNat < 2 ^ (m.log2 + 1) * 2 ^ (p + 1074).toNat := Nat.mul_lt_mul_of_pos_right hb.2 (Nat.pow_pos (by decide))
      _ = 2 ^ (m.log2 + 1 + (p + 1074).toNat) := (Nat.pow_add _ _ _).symm
      _ ≤ _ := Nat.pow_le_pow_right (by decide) (by omega)
/-- A float that is a number cut to a whole one. -/
theorem toIntVal (b : Nat) (s : Bool) (m : Nat) (p : Int) (h : double.read b = .number s m p) (hp : -1074 ≤ p) (ha : A m p / SC < 4611686018427387904) :
    floatToIntVal .f64 b .i64 = some (if s then -((A m p / SC : Nat) : Int) else ((A m p / SC : Nat) : Int)) := by
  unfold floatToIntVal
  have e : FloatKind.f64.decode b = .number s m p := h
  rw [e, toInt_zero s m p hp]
  simp only
  have h1 : IntKind.i64.min = -9223372036854775808 := by decide
  have h2 : IntKind.i64.max = 9223372036854775807 := by decide
  generalize A m p / SC = a at *
  rw [h1, h2, if_pos (by cases s <;> simp <;> omega)]
/- Sums. -/
theorem signed_nat (x : Int) : signed (decide (x < 0)) x.natAbs 0 = x := by
  unfold signed
  rw [shl, Nat.pow_zero, Nat.mul_one]
  by_cases h : x < 0
  · simp [h]; omega
  · simp [h]; omega
theorem sum_num (s t : Bool) (m n : Nat) (i j : Int) (hi : -1074 ≤ i) (hj : -1074 ≤ j) :
    ∃ x : Int, (Datum.number s m i).sum (.number t n j) = some (.number (if x = 0 then s && t else x < 0) x.natAbs (min i j)) ∧ x * ((2 ^ (min i j + 1074).toNat : Nat) : Int) = V s m i + V t n j := by
  have e1 := signed_V s m i (min i j) (by omega) (by omega)
  have e2 := signed_V t n j (min i j) (by omega) (by omega)
  refine ⟨_, rfl, ?_⟩
  rw [e1, e2, Int.add_mul]
theorem V_flip (s : Bool) (m : Nat) (p : Int) : V (!s) m p = - V s m p := by
  unfold V; cases s <;> simp
theorem V_abs (s : Bool) (m : Nat) (p : Int) : (V s m p).natAbs = A m p := by
  unfold V; cases s <;> simp
/- A word of a number: what the reading leaves of its writing, at most. -/
theorem near_any (s : Bool) (m : Nat) (p k : Int) (h : m = 0 ∨ p + m.log2 < k) (hk : -1021 ≤ k) (hk2 : k ≤ 1023) :
    ∃ m' p', double.read (double.nearest s m p) = .number s m' p' ∧ m' < 9007199254740992 ∧ -1074 ≤ p' ∧ (m' = 0 ∨ p' + m'.log2 ≤ k) := by
  rcases Nat.eq_zero_or_pos m with e | e
  · subst e; exact ⟨0, -1074, near_zero s p, by omega, by omega, Or.inl rfl⟩
  · exact near_le s m p k e (by rcases h with h | h; omega; exact h) hk hk2
theorem log_lt_of_A (m : Nat) (p : Int) (k e74 : Nat) (he74 : e74 = 1074) (hp : -1074 ≤ p) (h : A m p < 2 ^ (k + e74)) : m = 0 ∨ p + m.log2 < k := by
  rcases Nat.eq_zero_or_pos m with e | e
  · exact Or.inl e
  · right
    have hb := (Nat.log2_eq_iff (by omega : m ≠ 0)).1 (rfl : m.log2 = m.log2)
    have h1 : 2 ^ (m.log2 + (p + 1074).toNat) < 2 ^ (k + e74) := by
      rw [Nat.pow_add]
      exact Nat.lt_of_le_of_lt (Nat.mul_le_mul_right _ hb.1) h
    have := (Nat.pow_lt_pow_iff_right (by decide : 1 < 2)).1 h1
    omega
theorem log2_mul_lt (m n : Nat) (hm : 0 < m) (hn : 0 < n) : (m * n).log2 ≤ m.log2 + n.log2 + 1 := by
  have h1 := (Nat.log2_eq_iff (by omega : m ≠ 0)).1 (rfl : m.log2 = m.log2)
  have h2 := (Nat.log2_eq_iff (by omega : n ≠ 0)).1 (rfl : n.log2 = n.log2)
  have h0 : m * n ≠ 0 := Nat.ne_of_gt (Nat.mul_pos hm hn)
  have : (m * n).log2 < m.log2 + n.log2 + 2 := by
    rw [Nat.log2_lt h0]
    calc m * n < 2 ^ (m.log2 + 1) * 2 ^ (n.log2 + 1) := Nat.mul_lt_mul'' h1.2 h2.2
      _ = 2 ^ (m.log2 + n.log2 + 2) := by rw [← Nat.pow_add]; congr 1; omega
  omega
/- The stamp of a float. -/
def billion : Nat := 4741671816366391296
theorem read_billion : double.read billion = .number false 8388608000000000 (-23) := by decide
def secF (s : Bool) (m : Nat) (p : Int) : Int := if s then -(flT s m p : Int) else (flT s m p : Int)
def cF (s : Bool) (m : Nat) (p : Int) : Nat := double.nearest s (flT s m p) 0
def rF (b c : Nat) : Nat := (double.sub b c).getD 0
def qF (r : Nat) : Nat := (double.mul r billion).getD 0
def nanoF (q : Nat) : Int := (floatToIntVal .f64 q .i64).getD 0
/-- The rest of a float, and what comes of it, from the word of its whole part. -/
theorem rest_of (mB : Nat) (hB : double.read billion = .number false mB (-23)) (hB0 : 0 < mB) (hBl : mB.log2 = 52) (b c : Nat) (s : Bool) (m : Nat) (p : Int) (s' : Bool) (m' : Nat) (p' : Int) (hb : double.read b = .number s m p) (hp : -1074 ≤ p) (hc : double.read c = .number s' m' p') (hp' : -1074 ≤ p') (hd : (V s m p - V s' m' p').natAbs < SC) :
    floatBits .sub .f64 b c = some (rF b c) ∧ floatBits .mul .f64 (rF b c) billion = some (qF (rF b c)) ∧ floatToIntVal .f64 (qF (rF b c)) .i64 = some (nanoF (qF (rF b c))) ∧ -9223372036854775808 ≤ nanoF (qF (rF b c)) ∧ nanoF (qF (rF b c)) ≤ 9223372036854775807 := by
  obtain ⟨x, hx, hv⟩ := sum_num s (!s') m m' p p' hp hp'
  rw [V_flip] at hv
  have e1 : double.sub b c = some (double.nearest (if x = 0 then s && !s' else x < 0) x.natAbs (min p p')) := by
    unfold Format.sub
    rw [hb, hc]
    show ((Datum.number s m p).sum (.number (!s') m' p')).map _ = _
    rw [hx]
    rfl
  obtain ⟨e74, he74⟩ : ∃ e, e = 1074 := ⟨_, rfl⟩
  have hA : A x.natAbs (min p p') < 2 ^ (0 + e74) := by
    have h2 : (x * ((2 ^ (min p p' + 1074).toNat : Nat) : Int)).natAbs = A x.natAbs (min p p') := by
      unfold A
      rw [Int.natAbs_mul, Int.natAbs_natCast]
    rw [hv] at h2
    have h3 : V s m p + -V s' m' p' = V s m p - V s' m' p' := by omega
    rw [h3] at h2
    rw [← h2, Nat.zero_add, ← SC_of e74 he74]
    exact hd
  obtain ⟨mr, pr, hr, hmr, hpr, hkr⟩ := near_any (if x = 0 then s && !s' else x < 0) x.natAbs (min p p') 0 (log_lt_of_A _ _ 0 e74 he74 (by omega) hA) (by omega) (by omega)
  have hrF : rF b c = double.nearest (if x = 0 then s && !s' else x < 0) x.natAbs (min p p') := by unfold rF; rw [e1]; rfl
  rw [← hrF] at hr
  have e2 : double.mul (rF b c) billion = some (double.nearest ((if x = 0 then s && !s' else x < 0) ^^ false) (mr * mB) (pr + -23)) := by
    unfold Format.mul
    rw [hr, hB]
    rfl
  have hqF : qF (rF b c) = double.nearest ((if x = 0 then s && !s' else x < 0) ^^ false) (mr * mB) (pr + -23) := by unfold qF; rw [e2]; rfl
  have hlog : mr * mB = 0 ∨ (pr + -23) + (mr * mB).log2 < 31 := by
    rcases Nat.eq_zero_or_pos mr with e | e
    · left; rw [e, Nat.zero_mul]
    · right
      have h3 := log2_mul_lt mr mB e hB0
      rw [hBl] at h3
      rcases hkr with h | h
      · omega
      · omega
  obtain ⟨mq, pq, hq, hmq, hpq, hkq⟩ := near_any ((if x = 0 then s && !s' else x < 0) ^^ false) (mr * mB) (pr + -23) 31 hlog (by omega) (by omega)
  rw [← hqF] at hq
  have hAq := A_le mq pq 31 hpq hkq
  have hAq2 : A mq pq / SC < 4294967296 := by simpa using hAq
  have e3 := toIntVal _ _ _ _ hq hpq (Nat.lt_trans hAq2 (by decide))
  refine ⟨?_, ?_, ?_, ?bb⟩
  · show double.sub b c = _
    rw [e1, hrF]
  · show double.mul (rF b c) billion = _
    rw [e2, hqF]
  · unfold nanoF; rw [e3]; rfl
  · unfold nanoF; rw [e3]
    simp only [Option.getD_some]
    clear e3 hq hkq hlog hAq
    generalize A mq pq / SC = a at *
    split <;> omega
theorem log_B : Nat.log2 8388608000000000 = 52 := by rw [Nat.log2_eq_iff (by decide)]; decide
theorem rest_facts (b c : Nat) (s : Bool) (m : Nat) (p : Int) (s' : Bool) (m' : Nat) (p' : Int) (hb : double.read b = .number s m p) (hp : -1074 ≤ p) (hc : double.read c = .number s' m' p') (hp' : -1074 ≤ p') (hd : (V s m p - V s' m' p').natAbs < SC) :
    floatBits .sub .f64 b c = some (rF b c) ∧ floatBits .mul .f64 (rF b c) billion = some (qF (rF b c)) ∧ floatToIntVal .f64 (qF (rF b c)) .i64 = some (nanoF (qF (rF b c))) ∧ -9223372036854775808 ≤ nanoF (qF (rF b c)) ∧ nanoF (qF (rF b c)) ≤ 9223372036854775807 :=
  rest_of _ read_billion (by decide) log_B b c s m p s' m' p' hb hp hc hp' hd
/- Comparisons, as the walk has them. -/
theorem read_abs (b : Nat) : double.read (b % 9223372036854775808) = match double.read b with | .number _ m p => .number false m p | .infinity _ => .infinity false | .nan _ t => .nan false t := by
  obtain ⟨h1, h2, h3, h4, h5⟩ := dbl_facts
  unfold Format.read
  simp only [h1, h2, h3, h4, Nat.mod_mod]
  rw [show b % 9223372036854775808 / 9223372036854775808 = 0 by omega]
  split
  · rfl
  · split
    · rfl
    · split <;> rfl
theorem read_bits (b : Nat) : b &&& 9223372036854775807 = b % 9223372036854775808 := by
  rw [show (9223372036854775807 : Nat) = 2 ^ 63 - 1 by decide, Nat.and_two_pow_sub_one_eq_mod]
theorem order_eq (x y : Nat) : FloatKind.f64.format.order x y = (double.read x).order (double.read y) := rfl
theorem order_vals {x y : Nat} {s t : Bool} {m n : Nat} {i j : Int} (hx : double.read x = .number s m i) (hy : double.read y = .number t n j) (hi : -1074 ≤ i) (hj : -1074 ≤ j) : FloatKind.f64.format.order x y = some (compare (V s m i) (V t n j)) := by
  rw [order_eq, hx, hy, order_num s t m n i j hi hj]
theorem gt_iff (x y : Int) : (some (compare x y) == some Ordering.gt) = decide (y < x) := by
  rcases Int.lt_trichotomy x y with h | h | h
  · rw [Int.compare_eq_lt.2 h]; simp; omega
  · subst h; simp
  · rw [Int.compare_eq_gt.2 h]; simp [h]
theorem lt_iff (x y : Int) : (some (compare x y) == some Ordering.lt) = decide (x < y) := by
  rcases Int.lt_trichotomy x y with h | h | h
  · rw [Int.compare_eq_lt.2 h]; simp [h]
  · subst h; simp
  · rw [Int.compare_eq_gt.2 h]; simp; omega
theorem V_false (m : Nat) (p : Int) : V false m p = (A m p : Int) := rfl
theorem V_true (m : Nat) (p : Int) : V true m p = -(A m p : Int) := rfl
theorem read_maxSec : double.read 4787326403894837248 = .number false 4503599627370496 (-12) := by decide
theorem read_minSec : double.read 14010698440749613056 = .number true 4503599627370496 (-12) := by decide
theorem A_maxSec : A 4503599627370496 (-12) = 1099511627776 * SC := by
  have h : (4503599627370496 : Nat) = 1099511627776 * 2 ^ 12 := by decide
  unfold A
  obtain ⟨n, hn⟩ : ∃ n : Nat, ((-12 : Int) + 1074).toNat = n := ⟨_, rfl⟩
  rw [hn, SC_of (12 + n) (by omega), h, Nat.mul_assoc, ← Nat.pow_add]
theorem gen_maxSec : ∃ Z : Nat, (∀ (_ : Nat) (_ : Int), V false 4503599627370496 (-12) = (Z : Int) ∧ V true 4503599627370496 (-12) = -(Z : Int)) ∧ 1099511627776 * SC = Z := ⟨_, fun _ _ => ⟨by rw [V_false, A_maxSec], by rw [V_true, A_maxSec]⟩, rfl⟩
theorem read_maxFloat : double.read 9218868437227405311 = .number false 9007199254740991 971 := by decide
theorem A_mono {m n : Nat} {p q : Int} (h : m ≤ n) (hq : p ≤ q) : A m p ≤ A n q := by
  unfold A
  exact Nat.mul_le_mul h (Nat.pow_le_pow_right (by decide) (by omega))
/-- A float that is a number: not NaN, not infinite; and how it stands to the last second. -/
theorem num_orders {b : Nat} {s : Bool} {m : Nat} {p : Int} (h : double.read b = .number s m p) (hm : m < 9007199254740992) (hp : -1074 ≤ p) (ht : p ≤ 971) :
    (FloatKind.f64.format.order b b = some .eq) ∧ (FloatKind.f64.format.order (b % 9223372036854775808) 9218868437227405311 == some .gt) = false ∧
    (FloatKind.f64.format.order (b % 9223372036854775808) 4787326403894837248 == some .gt) = decide (1099511627776 * SC < A m p) ∧
    (FloatKind.f64.format.order b 4787326403894837248 == some .gt) = (!s && decide (1099511627776 * SC < A m p)) ∧
    (FloatKind.f64.format.order b 14010698440749613056 == some .lt) = (s && decide (1099511627776 * SC < A m p)) := by
  have ha : double.read (b % 9223372036854775808) = .number false m p := by rw [read_abs, h]
  obtain ⟨Z, hZ, hZ2⟩ := gen_maxSec
  obtain ⟨hZ0, hZ1⟩ := hZ 0 0
  rw [hZ2]
  refine ⟨?_, ?_, ?_, ?_, ?_⟩
  · rw [order_vals h h hp hp]; simp
  · rw [order_vals ha read_maxFloat hp (by decide), gt_iff, V_false, V_false]
    have := A_mono (m := m) (n := 9007199254740991) (p := p) (q := 971) (by omega) ht
    simp only [decide_eq_false_iff_not]
    generalize A 9007199254740991 971 = z at *
    omega
  · rw [order_vals ha read_maxSec hp (by decide), gt_iff, hZ0, V_false]
    simp only [Int.ofNat_lt]
  · rw [order_vals h read_maxSec hp (by decide), gt_iff, hZ0]
    cases s
    · rw [V_false]
      simp only [Bool.not_false, Bool.true_and, Int.ofNat_lt]
    · rw [V_true]
      simp only [Bool.not_true, Bool.false_and, decide_eq_false_iff_not]
      clear hZ hZ0 hZ1 hZ2
      omega
  · rw [order_vals h read_minSec hp (by decide), lt_iff, hZ1]
    cases s
    · rw [V_false]
      simp only [Bool.false_and, decide_eq_false_iff_not]
      clear hZ hZ0 hZ1 hZ2
      omega
    · rw [V_true]
      simp only [Bool.true_and]
      clear hZ hZ0 hZ1 hZ2
      congr 1
      apply propext
      omega
theorem inf_orders {b : Nat} {s : Bool} (h : double.read b = .infinity s) :
    (FloatKind.f64.format.order b b = some .eq) ∧ (FloatKind.f64.format.order (b % 9223372036854775808) 9218868437227405311 == some .gt) = true ∧
    (FloatKind.f64.format.order b 4787326403894837248 == some .gt) = !s ∧ (FloatKind.f64.format.order b 14010698440749613056 == some .lt) = s := by
  have ha : double.read (b % 9223372036854775808) = .infinity false := by rw [read_abs, h]
  refine ⟨?_, ?_, ?_, ?_⟩
  · rw [order_eq, h]; cases s <;> rfl
  · rw [order_eq, ha, read_maxFloat]; rfl
  · rw [order_eq, h, read_maxSec]; cases s <;> rfl
  · rw [order_eq, h, read_minSec]; cases s <;> rfl
theorem nan_orders {b : Nat} {s : Bool} {t : Nat} (h : double.read b = .nan s t) : FloatKind.f64.format.order b b = none := by
  rw [order_eq, h]; rfl
/- The whole part. -/
theorem floatOfInt_eq (n : Int) : floatOfInt .f64 n = double.nearest (decide (n < 0)) n.natAbs 0 := rfl
theorem read_floatOfInt (n : Int) (h : n.natAbs < 9007199254740992) : ∃ m p, double.read (floatOfInt .f64 n) = .number (decide (n < 0)) m p ∧ -1074 ≤ p ∧ A m p = n.natAbs * SC ∧ V (decide (n < 0)) m p = n * (SC : Int) := by
  rw [floatOfInt_eq]
  obtain ⟨m, p, h1, h2, h3⟩ := read_int (decide (n < 0)) n.natAbs h
  refine ⟨m, p, h1, h2, h3, ?_⟩
  unfold V
  rw [h3, Int.natCast_mul]
  by_cases hn : n < 0
  · rw [if_pos (by simpa using hn), ← Int.neg_mul]; congr 1; omega
  · rw [if_neg (by simpa using hn)]; congr 1; omega
theorem fl_bounds (s : Bool) (m : Nat) (p : Int) (h : A m p ≤ 1099511627776 * SC) : flT s m p ≤ 1099511627777 ∧ A m p / SC ≤ 1099511627776 := by
  have h1 : A m p / SC ≤ 1099511627776 := by
    rw [← Nat.mul_div_cancel 1099511627776 S_pos]
    exact Nat.div_le_div_right h
  refine ⟨?_, h1⟩
  unfold flT
  have : (s && A m p % SC != 0).toNat ≤ 1 := by cases (s && A m p % SC != 0) <;> decide
  omega
theorem fl_dist (s : Bool) (m : Nat) (p : Int) : (V s m p - secF s m p * (SC : Int)).natAbs < SC ∧ secF s m p * (SC : Int) ≤ V s m p := by
  have h1 := Nat.div_add_mod (A m p) SC
  have h2 := Nat.mod_lt (A m p) S_pos
  have e : ∀ x : Nat, ((x * SC : Nat) : Int) = (x : Int) * (SC : Int) := fun x => Int.natCast_mul _ _
  unfold secF flT V
  cases s
  · simp only [Bool.false_and, Bool.toNat_false, Nat.add_zero, Bool.false_eq_true, if_false]
    rw [← e, Nat.mul_comm]
    generalize SC * (A m p / SC) = z at *
    omega
  · simp only [Bool.true_and, if_true]
    rw [Int.neg_mul, ← e, Nat.add_mul, Nat.mul_comm (A m p / SC)]
    by_cases hz : A m p % SC = 0
    · rw [show (A m p % SC != 0) = false by simp [hz], Bool.toNat_false, Nat.zero_mul]
      generalize SC * (A m p / SC) = z at *
      omega
    · rw [show (A m p % SC != 0) = true by simp [hz], Bool.toNat_true, Nat.one_mul]
      generalize SC * (A m p / SC) = z at *
      omega
/-- What the program's FromFloat computes. -/
theorem prog_facts {b : Nat} {s : Bool} {m : Nat} {p : Int} (h : double.read b = .number s m p) (hp : -1074 ≤ p) (ha : A m p ≤ 1099511627776 * SC) :
    floatToIntVal .f64 (cF s m p) .i64 = some (secF s m p) ∧ floatBits .sub .f64 b (cF s m p) = some (rF b (cF s m p)) ∧ floatBits .mul .f64 (rF b (cF s m p)) billion = some (qF (rF b (cF s m p))) ∧ floatToIntVal .f64 (qF (rF b (cF s m p))) .i64 = some (nanoF (qF (rF b (cF s m p)))) ∧
    -9223372036854775808 ≤ nanoF (qF (rF b (cF s m p))) ∧ nanoF (qF (rF b (cF s m p))) ≤ 9223372036854775807 := by
  obtain ⟨hf1, hf2⟩ := fl_bounds s m p ha
  obtain ⟨mc, pc, hc, hpc, hAc⟩ := read_int s (flT s m p) (by omega)
  have hV : V s mc pc = secF s m p * (SC : Int) := by
    unfold V secF
    rw [hAc, Int.natCast_mul]
    cases s <;> simp [Int.neg_mul]
  have hd := (fl_dist s m p).1
  rw [← hV] at hd
  have hq : A mc pc / SC = flT s m p := by rw [hAc, Nat.mul_div_cancel _ S_pos]
  refine ⟨?_, rest_facts b (cF s m p) s m p s mc pc h hp hc hpc hd⟩
  have := toIntVal (cF s m p) s mc pc hc hpc (by rw [hq]; omega)
  rw [hq] at this
  exact this
/-- What the reference's FromFloat computes. -/
theorem ref_facts {b : Nat} {s : Bool} {m : Nat} {p : Int} (h : double.read b = .number s m p) (hp : -1074 ≤ p) (ha : A m p ≤ 1099511627776 * SC) :
    ∃ n : Int, floatToIntVal .f64 b .i64 = some n ∧ -1099511627776 ≤ n ∧ n ≤ 1099511627776 ∧
      ((FloatKind.f64.format.order (floatOfInt .f64 n) b == some .gt) = true ∧ secF s m p = n - 1 ∨ (FloatKind.f64.format.order (floatOfInt .f64 n) b == some .gt) = false ∧ secF s m p = n) := by
  obtain ⟨hf1, hf2⟩ := fl_bounds s m p ha
  have h1 := toIntVal b s m p h hp (by omega)
  obtain ⟨T, hT⟩ : ∃ T, A m p / SC = T := ⟨_, rfl⟩
  have hT2 : T ≤ 1099511627776 := by omega
  rw [hT] at h1
  refine ⟨_, h1, by split <;> omega, by split <;> omega, ?_⟩
  obtain ⟨mc, pc, hc, hpc, hAc, hVc⟩ := read_floatOfInt (if s then -(T : Int) else (T : Int)) (by split <;> omega)
  rw [order_vals hc h hpc hp, gt_iff, hVc]
  have g1 := Nat.div_add_mod (A m p) SC
  rw [hT] at g1
  have g2 := Nat.mod_lt (A m p) S_pos
  have e : ∀ x : Nat, ((x * SC : Nat) : Int) = (x : Int) * (SC : Int) := fun x => Int.natCast_mul _ _
  cases s
  · right
    simp only [Bool.false_eq_true, if_false]
    rw [← e, V_false, Nat.mul_comm]
    refine ⟨?_, ?_⟩
    · simp only [decide_eq_false_iff_not]
      generalize SC * T = z at *
      omega
    · unfold secF flT; rw [hT]; simp
  · simp only [if_true]
    rw [Int.neg_mul, ← e, V_true, Nat.mul_comm]
    by_cases hz : A m p % SC = 0
    · right
      refine ⟨?_, ?_⟩
      · simp only [decide_eq_false_iff_not]
        generalize SC * T = z at *
        omega
      · unfold secF flT; rw [hT]; simp [hz]
    · left
      refine ⟨?_, ?_⟩
      · simp only [decide_eq_true_eq]
        generalize SC * T = z at *
        omega
      · unfold secF flT; rw [hT, show (A m p % SC != 0) = true by simp [hz]]; simp; omega
/-- The same rest from the reference's word of the whole part. -/
theorem ref_rest {b : Nat} {s : Bool} {m : Nat} {p : Int} (h : double.read b = .number s m p) (hp : -1074 ≤ p) (ha : A m p ≤ 1099511627776 * SC) :
    floatBits .sub .f64 b (floatOfInt .f64 (secF s m p)) = some (rF b (floatOfInt .f64 (secF s m p))) ∧ floatBits .mul .f64 (rF b (floatOfInt .f64 (secF s m p))) billion = some (qF (rF b (floatOfInt .f64 (secF s m p)))) ∧
    floatToIntVal .f64 (qF (rF b (floatOfInt .f64 (secF s m p)))) .i64 = some (nanoF (qF (rF b (cF s m p)))) := by
  obtain ⟨hf1, hf2⟩ := fl_bounds s m p ha
  obtain ⟨mc, pc, hc, hpc, hAc, hVc⟩ := read_floatOfInt (secF s m p) (by unfold secF; split <;> omega)
  have hd := (fl_dist s m p).1
  rw [← hVc] at hd
  obtain ⟨k1, k2, k3, k4, k5⟩ := rest_facts b _ s m p _ mc pc h hp hc hpc hd
  refine ⟨k1, k2, ?_⟩
  rw [k3]
  by_cases hz : s = true ∧ flT s m p = 0
  · obtain ⟨rfl, hz⟩ := hz
    have hA : A m p = 0 := by
      unfold flT at hz
      have g1 := Nat.div_add_mod (A m p) SC
      have h1 : A m p / SC = 0 := (Nat.add_eq_zero_iff.1 hz).1
      have h2 : A m p % SC = 0 := by
        by_cases e : A m p % SC = 0
        · exact e
        · simp [e] at hz
      rw [h1, h2] at g1
      simpa using g1.symm
    have hm : m = 0 := by
      unfold A at hA
      rcases Nat.mul_eq_zero.1 hA with e | e
      · exact e
      · exact absurd e (Nat.ne_of_gt (Nat.pow_pos (by decide)))
    subst hm
    have es : secF true 0 p = 0 := by unfold secF; rw [hz]; rfl
    have ec : cF true 0 p = 9223372036854775808 := by unfold cF; rw [hz]; decide
    have e0 : floatOfInt .f64 0 = 0 := by decide
    rw [es, ec, e0]
    have r1 : double.read 9223372036854775808 = .number true 0 (-1074) := by decide
    have r0 : double.read 0 = .number false 0 (-1074) := by decide
    have hs : ∀ (t : Bool) (i j : Int), (Datum.number true 0 i).sum (.number t 0 j) = some (.number (true && t) 0 (min i j)) := by
      intro t i j
      have z : ∀ (q : Bool) (k : Nat), signed q 0 k = 0 := by intro q k; unfold signed; rw [shl, Nat.zero_mul]; cases q <;> rfl
      simp only [Datum.sum]
      rw [z, z]
      rfl
    have a1 : rF b 9223372036854775808 = 0 := by
      unfold rF Format.sub
      rw [h, r1]
      show (((Datum.number true 0 p).sum (.number false 0 (-1074))).map _).getD 0 = _
      rw [hs]
      rfl
    have a2 : rF b 0 = 9223372036854775808 := by
      unfold rF Format.sub
      rw [h, r0]
      show (((Datum.number true 0 p).sum (.number true 0 (-1074))).map _).getD 0 = _
      rw [hs]
      rfl
    rw [a1, a2]
    decide
  · have : floatOfInt .f64 (secF s m p) = cF s m p := by
      rw [floatOfInt_eq]
      unfold cF secF
      cases s
      · have h1 : ¬ ((flT false m p : Int) < 0) := by omega
        simp [h1]
      · have h0 : flT true m p ≠ 0 := fun e => hz ⟨rfl, e⟩
        have h1 : 0 < flT true m p := by omega
        simp [h1]
    rw [this]
end Go.Proofs.YtfdfpgkfhcmlcaaDoor
