/- Numbers in fields of a header, by eights and by bytes: the plain law. -/
import Derived.Test.YtpmiddhdgidimaaGreatDoorPlain
import Derived.Lib.Strings
set_option linter.unusedVariables false
set_option linter.unusedSimpArgs false
namespace Go.Proofs.YtpmiddhdgidimaaGreatDoor
/- Digits by eights. -/
def octD : Nat → Nat → List UInt8
  | 0, _ => []
  | k + 1, n => octD k (n / 8) ++ [UInt8.ofNat (48 + n % 8)]
theorem octD_length : ∀ k n, (octD k n).length = k
  | 0, _ => rfl
  | k + 1, n => by rw [octD, List.length_append, octD_length]; rfl
theorem octD_cons : ∀ k n, octD (k + 1) n = UInt8.ofNat (48 + n / 8 ^ k % 8) :: octD k n
  | 0, n => by simp [octD]
  | k + 1, n => by
    rw [octD, octD_cons k (n / 8), octD, Nat.div_div_eq_div_mul, Nat.mul_comm 8, ← Nat.pow_succ]
    rfl
def octL (w n : Nat) : List UInt8 := octD (w - 1) n ++ [0]
theorem octL_length (w n : Nat) (h : 0 < w) : (octL w n).length = w := by
  unfold octL; rw [List.length_append, octD_length]; simp; omega
/- Bytes, the lowest first. -/
def leD : Nat → Int → List UInt8
  | 0, _ => []
  | k + 1, n => UInt8.ofNat (n % 256).toNat :: leD k (n / 256)
theorem leD_length : ∀ k n, (leD k n).length = k
  | 0, _ => rfl
  | k + 1, n => by rw [leD, List.length_cons, leD_length]
theorem leD_snoc : ∀ k n, leD (k + 1) n = leD k n ++ [UInt8.ofNat (n / 256 ^ k % 256).toNat]
  | 0, n => by simp [leD]
  | k + 1, n => by
    rw [leD, leD_snoc k (n / 256), leD, Int.ediv_ediv_of_nonneg (by decide), Int.pow_succ, Int.mul_comm 256]
    rfl
def signB (n : Int) : UInt8 := if n < 0 then 255 else 128
def baseL (w : Nat) (n : Int) : List UInt8 := signB n :: (leD (w - 1) n).reverse
theorem baseL_length (w : Nat) (n : Int) (h : 0 < w) : (baseL w n).length = w := by
  unfold baseL; rw [List.length_cons, List.length_reverse, leD_length]; omega
def baseOk (w : Nat) (n : Int) : Bool := w == 12 || (decide (-72057594037927936 ≤ n) && decide (n < 72057594037927936))
def octOk (w : Nat) (n : Int) : Bool := decide (0 ≤ n) && decide (n < ((8 ^ (w - 1) : Nat) : Int))
/-- A number's field. -/
def fieldT (n : Int) (w : Nat) : Option (List UInt8) := if octOk w n then some (octL w n.toNat) else if baseOk w n then some (baseL w n) else none
theorem field_length {n : Int} {w : Nat} {l : List UInt8} (h : fieldT n w = some l) (hw : 0 < w) : l.length = w := by
  unfold fieldT at h
  split at h
  · injection h with h; rw [← h, octL_length _ _ hw]
  · split at h
    · injection h with h; rw [← h, baseL_length _ _ hw]
    · cases h
/- Read again. -/
def foldO (l : List UInt8) : Nat := l.foldl (fun a c => a * 8 + (c.toNat + 208) % 8) 0
theorem foldO_snoc (l : List UInt8) (c : UInt8) : foldO (l ++ [c]) = foldO l * 8 + (c.toNat + 208) % 8 := by unfold foldO; rw [List.foldl_append]; rfl
theorem foldO_lt : ∀ (k : Nat) (l : List UInt8), l.length = k → foldO l < 8 ^ k
  | 0, l, h => by obtain rfl := List.length_eq_zero_iff.1 h; simp [foldO]
  | k + 1, l, h => by
    rcases List.eq_nil_or_concat l with rfl | ⟨m, c, rfl⟩
    · simp at h
    · rw [List.concat_eq_append] at *
      have ih := foldO_lt k m (by simpa using h)
      rw [foldO_snoc, Nat.pow_succ]
      omega
theorem digit_oct (n : Nat) : ((UInt8.ofNat (48 + n % 8)).toNat + 208) % 8 = n % 8 := by
  have : (UInt8.ofNat (48 + n % 8)).toNat = 48 + n % 8 := by simp [UInt8.toNat_ofNat']; omega
  rw [this]; omega
theorem foldO_octD : ∀ k n, n < 8 ^ k → foldO (octD k n) = n
  | 0, n, h => by simp at h; subst h; rfl
  | k + 1, n, h => by
    rw [octD, foldO_snoc, foldO_octD k (n / 8) (by rw [Nat.pow_succ] at h; omega), digit_oct]
    omega
/-- Bytes behind the first, as a number over what stands ahead. -/
def foldB (acc : Int) (l : List UInt8) : Int := l.foldl (fun a c => a * 256 + c.toNat) acc
theorem foldB_snoc (acc : Int) (l : List UInt8) (c : UInt8) : foldB acc (l ++ [c]) = foldB acc l * 256 + c.toNat := by unfold foldB; rw [List.foldl_append]; rfl
theorem foldB_leD : ∀ (k : Nat) (n : Int), foldB (n / 256 ^ k) (leD k n).reverse = n
  | 0, n => by simp [leD, foldB]
  | k + 1, n => by
    rw [leD, List.reverse_cons, foldB_snoc]
    have e : n / 256 ^ (k + 1) = n / 256 / 256 ^ k := by rw [Int.ediv_ediv_of_nonneg (by decide), Int.pow_succ, Int.mul_comm 256]
    have e2 : (UInt8.ofNat (n % 256).toNat).toNat = (n % 256).toNat := by
      simp [UInt8.toNat_ofNat']; omega
    rw [e, foldB_leD k (n / 256), e2]
    omega
theorem signB_acc (n : Int) : (if (signB n == 255) = true then (-1 : Int) else 0) = if n < 0 then -1 else 0 := by
  unfold signB
  by_cases h : n < 0
  · rw [if_pos h, if_pos h]; rfl
  · rw [if_neg h, if_neg h]; rfl
/-- What ReadBase reckons. -/
def accB (s : List UInt8) : Int := if (s.headD 0 == 255) = true then -1 else 0
def readBV (s : List UInt8) : Int := IntKind.i64.wrap (foldB (accB s) s.tail)
theorem readBV_back (w : Nat) (n : Int) (hw : w = 8 ∨ w = 12) (h1 : -9223372036854775808 ≤ n) (h2 : n ≤ 9223372036854775807) (hok : baseOk w n = true) : readBV (baseL w n) = n := by
  unfold readBV accB baseL
  rw [List.headD_cons, List.tail_cons, signB_acc]
  have e : (if n < 0 then (-1 : Int) else 0) = n / 256 ^ (w - 1) := by
    rcases hw with rfl | rfl
    · have : (256 : Int) ^ (8 - 1) = 72057594037927936 := by decide
      rw [this]
      have hb : -72057594037927936 ≤ n ∧ n < 72057594037927936 := by simpa [baseOk] using hok
      split <;> omega
    · have : (256 : Int) ^ (12 - 1) = 309485009821345068724781056 := by decide
      rw [this]
      split <;> omega
  rw [e, foldB_leD, IntKind.wrap_i64]
  omega
def readBaseT (s : List UInt8) : Option Int := if baseOk s.length (readBV s) = true ∧ baseL s.length (readBV s) = s then some (readBV s) else none
/-- What ReadOctal reckons. -/
def cutZero (s : List UInt8) : List UInt8 := if Lib.hasSuffix s [0] then s.take (s.length - 1) else s
def readOV (s : List UInt8) : Nat := foldO (cutZero s)
def readOctT (s : List UInt8) : Option Int := if octOk s.length (readOV s : Int) = true ∧ octL s.length (readOV s) = s then some (readOV s : Int) else none
def readFieldT (s : List UInt8) : Option Int :=
  match readOctT s with
  | some n => some n
  | none => match readBaseT s with
    | some n => if fieldT n s.length = some s then some n else none
    | none => none
theorem cutZero_oct (w n : Nat) : cutZero (octL w n) = octD (w - 1) n := by
  unfold cutZero octL
  have h : Lib.hasSuffix (octD (w - 1) n ++ [0]) [0] = true := by
    unfold Lib.hasSuffix
    simp
  rw [if_pos h]
  simp
theorem readOV_back (w : Nat) (n : Nat) (hn : n < 8 ^ (w - 1)) : readOV (octL w n) = n := by
  unfold readOV
  rw [cutZero_oct, foldO_octD _ _ hn]
theorem octOk_iff (w : Nat) (n : Int) : octOk w n = true ↔ 0 ≤ n ∧ n < ((8 ^ (w - 1) : Nat) : Int) := by simp [octOk]
/-- A number is told again by its field. -/
theorem field_back (w : Nat) (n : Int) (s : List UInt8) (hw : w = 8 ∨ w = 12) (h1 : -9223372036854775808 ≤ n) (h2 : n ≤ 9223372036854775807) (h : fieldT n w = some s) : readFieldT s = some n := by
  have hl := field_length h (by omega)
  unfold fieldT at h
  by_cases ho : octOk w n = true
  · rw [if_pos ho] at h
    injection h with h
    obtain ⟨ho1, ho2⟩ := (octOk_iff w n).1 ho
    have hv : readOV s = n.toNat := by rw [← h]; exact readOV_back w _ (by omega)
    have hr : readOctT s = some n := by
      unfold readOctT
      rw [hl, hv, Int.toNat_of_nonneg ho1, if_pos ⟨ho, h⟩]
    unfold readFieldT
    rw [hr]
  · rw [if_neg ho] at h
    split at h
    · rename_i hb
      injection h with h
      have hno : readOctT s = none := by
        unfold readOctT
        rw [if_neg]
        rintro ⟨h3, h4⟩
        have h5 : s.headD 0 = signB n := by rw [← h]; rfl
        rw [hl] at h4
        have h6 : ∃ c r, octL w (readOV s) = c :: r ∧ c.toNat < 64 := by
          rcases hw with rfl | rfl
          · refine ⟨_, _, by unfold octL; rw [show 8 - 1 = 6 + 1 from rfl, octD_cons]; rfl, ?_⟩
            simp [UInt8.toNat_ofNat']; omega
          · refine ⟨_, _, by unfold octL; rw [show 12 - 1 = 10 + 1 from rfl, octD_cons]; rfl, ?_⟩
            simp [UInt8.toNat_ofNat']; omega
        obtain ⟨c, r, h7, h8⟩ := h6
        rw [← h4, h7] at h5
        simp only [List.headD_cons] at h5
        rw [h5] at h8
        unfold signB at h8
        split at h8 <;> exact absurd h8 (by decide)
      have hv : readBV s = n := by rw [← h]; exact readBV_back w n hw h1 h2 hb
      have hr : readBaseT s = some n := by
        unfold readBaseT
        rw [hl, hv, if_pos ⟨hb, h⟩]
      unfold readFieldT
      rw [hno, hr]
      simp only
      rw [hl, if_pos]
      unfold fieldT
      rw [if_neg ho, if_pos hb, h]
    · cases h
theorem field_sound (s : List UInt8) (n : Int) (h : readFieldT s = some n) : fieldT n s.length = some s := by
  unfold readFieldT at h
  split at h
  · rename_i m hm
    injection h with h
    subst h
    unfold readOctT at hm
    split at hm
    · rename_i hc
      injection hm with hm
      subst hm
      unfold fieldT
      rw [if_pos hc.1, Int.toNat_natCast, hc.2]
    · cases hm
  · split at h
    · split at h
      · injection h with h; subst h; assumption
      · cases h
    · cases h
end Go.Proofs.YtpmiddhdgidimaaGreatDoor
