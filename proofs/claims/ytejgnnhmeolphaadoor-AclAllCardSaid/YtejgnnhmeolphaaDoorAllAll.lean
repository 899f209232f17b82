/- AclAll: whatever the lists, the text and the mode, the call returns true. Conditions: those of the row. -/
import Derived.Test.YtejgnnhmeolphaaDoorPRefParsex1
import Derived.Test.YtejgnnhmeolphaaDoorAllRef
import Derived.Test.YtejgnnhmeolphaaDoorAclMay
import Derived.Deep.Slices
import Derived.Deep.Fields
import Derived.ChangeSame
import Derived.OpenShut
import Derived.SliceStrings
import Derived.Test.YtejgnnhmeolphaaDoorWorld
import Derived.Test.YtejgnnhmeolphaaDoorCards
import Derived.Lay
import Derived.Stop.LaidErr
import Derived.LaidSub
import Derived.Test.YtejgnnhmeolphaaDoorAclLaw
set_option linter.unusedVariables false
set_option linter.unusedSimpArgs false
namespace Go.Proofs.YtejgnnhmeolphaaDoor
open Go.RowKit Go.Proofs.YtejgnnhmeolphaaDoorW.PrintWords Go.Proofs.YtejgnnhmeolphaaDoor.PAclR Go.Proofs.YtejgnnhmeolphaaDoor.PRefMay Go.Proofs.YtejgnnhmeolphaaDoor.PRefText Go.Proofs.YtejgnnhmeolphaaDoor.PRefParse

/- Decimal at a numeral. -/
def valL (l : List UInt8) : Nat := l.foldl (fun v c => v * 10 + (c.toNat - 48)) 0
theorem valL_snoc (l : List UInt8) (c : UInt8) : valL (l ++ [c]) = valL l * 10 + (c.toNat - 48) := by simp [valL]
theorem valL_dec (n : Nat) : valL (Lib.decDigits n) = n := by
  induction n using Nat.strongRecOn with
  | ind n ih =>
    rw [Lib.decDigits]
    split
    · rename_i h
      simp [valL]; omega
    · rename_i h
      rw [valL_snoc, ih (n / 10) (by omega)]
      simp; omega
theorem valL_take (l : List UInt8) : ∀ (d i : Nat), l.length - i = d → valL (l.take i) ≤ valL l
  | 0, i, h => by rw [List.take_of_length_le (by omega)]; exact Nat.le_refl _
  | d + 1, i, h => by
    have hi : i < l.length := by omega
    have := valL_take l d (i + 1) (by omega)
    rw [List.take_add_one, List.getElem?_eq_getElem hi, Option.toList_some, valL_snoc] at this
    omega
theorem dec_digits_loop (s : List UInt8) (hs : s.length ≤ 1000000) (hd : ∀ x ∈ s, 48 ≤ x.toNat ∧ x.toNat ≤ 57) (hv : valL s ≤ 2147483647) : ∀ (d i k : Nat), s.length - i = d → i ≤ s.length → 2 * d + 40 ≤ k →
    gripsackref9_Decimal.l0 k (mkS s) (valL (s.take i) : Int) (i : Int) = if mkS (Lib.itoa (valL s)) = mkS s then some (valL s : Int) else some (-1)
  | 0, i, k, he, hi, hk => by
    obtain ⟨k, rfl⟩ : ∃ k', k = k' + 2 := ⟨k - 2, by omega⟩
    obtain rfl : i = s.length := by omega
    unfold gripsackref9_Decimal.l0
    rw [size_mkS, if_neg (by omega), List.take_length]
    unfold gripsackref9_Decimal.j1
    rw [if_neg (by decide), if_neg (by omega), digits_f (valL s : Int) k (by omega) (by omega) (by omega)]
    simp only [Option.bind_some, toList_eq_iff]
  | d + 1, i, k, he, hi, hk => by
    obtain ⟨k, rfl⟩ : ∃ k', k = k' + 2 := ⟨k - 2, by omega⟩
    have hlt : i < s.length := by omega
    have hx := hd s[i] (List.getElem_mem _)
    have hle := valL_take s (s.length - i) i rfl
    have hb : bt (mkS s) (i : Int) = (s[i].toNat : Int) := by
      rw [bt_mkS, Int.toNat_natCast, List.getD_eq_getElem?_getD, List.getElem?_eq_getElem hlt]; rfl
    have hn : (valL (s.take (i + 1)) : Int) = (valL (s.take i) : Int) * 10 + ((s[i].toNat : Int) - 48) := by
      rw [List.take_add_one, List.getElem?_eq_getElem hlt, Option.toList_some, valL_snoc]; omega
    unfold gripsackref9_Decimal.l0
    rw [size_mkS, if_pos (by omega), decide_eq_true (by omega)]
    unfold gripsackref9_Decimal.j1
    rw [if_pos rfl, size_mkS, if_pos (by omega), if_pos (by omega), hb, if_neg (by omega), if_neg (by omega), w64 (x := (valL (s.take i) : Int) * 10) (by omega), w64 (x := (i : Int) + 1) (by omega), w64 (by omega),
      show (valL (s.take i) : Int) * 10 + ((s[i].toNat : Int) - 48) % 256 = (valL (s.take (i + 1)) : Int) from by rw [hn]; omega, show ((i : Int) + 1) = ((i + 1 : Nat) : Int) from by omega]
    exact dec_digits_loop s hs hd hv d (i + 1) k (by omega) (by omega) (by omega)
theorem decL_itoa (n : Int) (h0 : 0 ≤ n) (h1 : n ≤ 2147483647) : decL (Lib.itoa n) = n := by
  have hl := Lib.itoa_length_le n (by omega) (by omega)
  have hk := (dec_f (Lib.itoa n) (2 * (Lib.itoa n).length + 40) (by omega) (by omega)).1
  have hd : ∀ x ∈ Lib.itoa n, 48 ≤ x.toNat ∧ x.toNat ≤ 57 := by rw [itoa_dec h0]; exact dec_digit _
  have hv : valL (Lib.itoa n) = n.toNat := by rw [itoa_dec h0, valL_dec]
  have h := dec_digits_loop (Lib.itoa n) (by omega) hd (by omega) (Lib.itoa n).length 0 (2 * (Lib.itoa n).length + 40) (by omega) (Nat.zero_le _) (by omega)
  rw [hv, Int.toNat_of_nonneg h0, if_pos rfl] at h
  have hf : gripsackref9_Decimal.f (2 * (Lib.itoa n).length + 40) (mkS (Lib.itoa n)) = some n := h
  rw [hf] at hk
  exact (Option.some.inj hk).symm

/- A part. -/
def refTag (p q : List UInt8) : Int := if p = [117] then (if q = [] then 1 else 2) else if p = [103] then (if q = [] then 3 else 4) else if p = [109] then 5 else if p = [111] then 6 else 0
def rp (n : Int) (x : UInt8) (j : Int) : Int := if x = 45 then n else Go.bits .or .i64 n (shr .i64 4 j)
def refPartL (s : List UInt8) : Option Ace :=
  match splitOn 58 s with
  | [p, q, [x, y, z]] => some ⟨refTag p q, if namedB (refTag p q) then decL q else 0, rp (rp (rp 0 x 0) y 1) z 2⟩
  | _ => none
theorem rp8 : ∀ p : Fin 8, rp (rp (rp 0 (if Go.bits .and .i64 (p.val : Int) 4 = 0 then 45 else 114) 0) (if Go.bits .and .i64 ((p.val : Int) * 2) 4 = 0 then 45 else 119) 1) (if Go.bits .and .i64 ((p.val : Int) * 4) 4 = 0 then 45 else 120) 2 = p.val := by decide +kernel
theorem refPart_back (a : Ace) (h : GoodAce a) : refPartL (aceText a) = some a := by
  obtain ⟨g0, g1, g2, g3, g4⟩ := good_nums h
  have g5 := h.1
  have g6 := h.2.1
  have hp := rp8 ⟨a.f2.toNat, by omega⟩
  simp only [Int.toNat_of_nonneg g2] at hp
  have hid : ∀ b : Bool, namedB a.f0 = b → (if b then decL (idText a) else 0) = a.f1 := by
    intro b hb
    cases b with
    | true => rw [if_pos rfl]; unfold idText; rw [if_pos hb]; exact decL_itoa a.f1 g0 g1
    | false => rw [if_neg (by decide)]; exact (g4 hb).symm
  have hne : namedB a.f0 = true → idText a ≠ [] := fun hn => by unfold idText; rw [if_pos hn, itoa_dec g0]; exact dec_ne _
  have hem : namedB a.f0 = false → idText a = [] := fun hn => by unfold idText; rw [hn]; rfl
  have ht : refTag (headOf a.f0) (idText a) = a.f0 := by
    have hc : a.f0 = 1 ∨ a.f0 = 2 ∨ a.f0 = 3 ∨ a.f0 = 4 ∨ a.f0 = 5 ∨ a.f0 = 6 := by omega
    rcases hc with e | e | e | e | e | e
    · rw [e, hem (by rw [e]; rfl)]; rfl
    · have := hne (by rw [e]; rfl); rw [e]; simp [refTag, headOf, this]
    · rw [e, hem (by rw [e]; rfl)]; rfl
    · have := hne (by rw [e]; rfl); rw [e]; simp [refTag, headOf, this]
    · rw [e]; rfl
    · rw [e]; rfl
  unfold refPartL
  rw [aceText_split a h, show rwxP a.f2 = [if Go.bits .and .i64 a.f2 4 = 0 then 45 else 114, if Go.bits .and .i64 (a.f2 * 2) 4 = 0 then 45 else 119, if Go.bits .and .i64 (a.f2 * 4) 4 = 0 then 45 else 120] from rfl]
  simp only
  rw [ht, hp]
  cases hn : namedB a.f0 with
  | true => rw [hid true hn]
  | false => rw [hid false hn]
theorem refMap_back : ∀ l : List Ace, (∀ a ∈ l, GoodAce a) → (l.map aceText).mapM refPartL = some l
  | [], _ => rfl
  | a :: l, h => by
    rw [List.map_cons, List.mapM_cons, refPart_back a (h a (by simp)), refMap_back l (fun b hb => h b (by simp [hb]))]
    rfl
/-- The reference's answer. -/
def refParseL (s : List UInt8) : Option (List Ace) :=
  match (splitOn 44 s).mapM refPartL with
  | none => none
  | some l => if mayL l = true ∧ textL l = s then some l else none
theorem refParse_eq (s : List UInt8) : refParseL s = parseL s := by
  have h1 : ∀ l, refParseL s = some l → parseL s = some l := by
    intro l h
    unfold refParseL at h
    split at h
    · cases h
    · split at h
      · rename_i hh
        cases h
        rw [← hh.2]; exact parse_back hh.1
      · cases h
  have h2 : ∀ l, parseL s = some l → refParseL s = some l := by
    intro l h
    obtain ⟨hm, ht⟩ := parse_text h
    obtain ⟨hne, hg⟩ := may_good hm
    have hs : splitOn 44 s = l.map aceText := by
      rw [← ht]
      exact split_join 44 _ (by simpa using hne) (fun x hx => by
        obtain ⟨a, ha, rfl⟩ := List.mem_map.1 hx
        exact aceText_comma a (hg a ha))
    unfold refParseL
    rw [hs, refMap_back l hg]
    exact if_pos ⟨hm, ht⟩
  cases hr : refParseL s with
  | some l => exact (h1 l hr).symm
  | none =>
    cases hp : parseL s with
    | some l => rw [h2 l hp] at hr; cases hr
    | none => rfl
/- The print's ParseAcl. -/
theorem j4_step (k : Nat) (x0 : ByteArray) (x3 : List ByteArray) (x4 : List Ace) (i : Nat) (p q : List UInt8) (x y z : UInt8) (t : Int) (hq : q.length ≤ 1000) (hx4 : x4.length ≤ 1000000) (hi : i ≤ 1000000) (hk : 2100 ≤ k) :
    rParse.j4 (k + 6) x0 x3 x4 (i : Int) [mkS p, mkS q, mkS [x, y, z]] t 0 0 = rParse.l0 k x0 x3 (x4 ++ [⟨t, if namedB t then decL q else 0, rp (rp (rp 0 x 0) y 1) z 2⟩]) ((i + 1 : Nat) : Int) := by
  have hl1 : ∀ id : Int, rParse.l1 (k + 4) x0 x3 x4 (i : Int) [mkS p, mkS q, mkS [x, y, z]] 0 t id 0 = rParse.l0 k x0 x3 (x4 ++ [⟨t, id, rp (rp (rp 0 x 0) y 1) z 2⟩]) ((i + 1 : Nat) : Int) := by
    intro id
    have hr : rdOf ByteArray.empty [mkS p, mkS q, mkS [x, y, z]] 2 = mkS [x, y, z] := rfl
    have hb : ∀ c : UInt8, ((c.toNat : Int) = 45) = (c = 45) := fun c => propext ⟨fun h => UInt8.toNat_inj.1 (by rw [show (45 : UInt8).toNat = 45 from rfl]; omega), fun h => by rw [h]; rfl⟩
    have step : ∀ (k : Nat) (j : Nat) (c : UInt8) (n : Int), j < 3 → [x, y, z].getD j 0 = c → rParse.l1 (k + 1) x0 x3 x4 (i : Int) [mkS p, mkS q, mkS [x, y, z]] (j : Int) t id n = rParse.l1 k x0 x3 x4 (i : Int) [mkS p, mkS q, mkS [x, y, z]] ((j + 1 : Nat) : Int) t id (rp n c j) := by
      intro k j c n hj hc
      have e : rParse.l1 (k + 1) x0 x3 x4 (i : Int) [mkS p, mkS q, mkS [x, y, z]] (j : Int) t id n = (if (j : Int) < 3 then (if 2 < (([mkS p, mkS q, mkS [x, y, z]].length : Nat) : Int) then (if 0 ≤ (j : Int) then (if (j : Int) < ((rdOf ByteArray.empty [mkS p, mkS q, mkS [x, y, z]] 2).size : Int) then (if (bt (rdOf ByteArray.empty [mkS p, mkS q, mkS [x, y, z]] 2) j) = 45 then (rParse.l1 k x0 x3 x4 (i : Int) [mkS p, mkS q, mkS [x, y, z]] (wrap64 ((j : Int) + 1)) t id n) else (rParse.l1 k x0 x3 x4 (i : Int) [mkS p, mkS q, mkS [x, y, z]] (wrap64 ((j : Int) + 1)) t id (Go.bits .or .i64 n (shr .i64 4 j)))) else (none)) else (none)) else (none)) else (if x4.length < 5864062014805 then (rParse.l0 k x0 x3 (x4 ++ [(⟨t, id, n⟩ : Ace)]) (wrap64 ((i : Int) + 1))) else (none))) := rfl
      rw [e, hr, size_mkS, if_pos (by omega), if_pos (by simp), if_pos (by omega), if_pos (by simp; omega), bt_mkS, Int.toNat_natCast, hc, w64 (by omega), show ((j : Int) + 1) = ((j + 1 : Nat) : Int) from by omega]
      unfold rp
      simp only [hb]
      split <;> rfl
    have s0 := step (k + 3) 0 x 0 (by omega) rfl
    have s1 := step (k + 2) 1 y (rp 0 x 0) (by omega) rfl
    have s2 := step (k + 1) 2 z (rp (rp 0 x 0) y 1) (by omega) rfl
    refine s0.trans (s1.trans (s2.trans ?_))
    have e : rParse.l1 (k + 1) x0 x3 x4 (i : Int) [mkS p, mkS q, mkS [x, y, z]] ((3 : Nat) : Int) t id (rp (rp (rp 0 x 0) y 1) z 2) = (if x4.length < 5864062014805 then (rParse.l0 k x0 x3 (x4 ++ [(⟨t, id, rp (rp (rp 0 x 0) y 1) z 2⟩ : Ace)]) (wrap64 ((i : Int) + 1))) else (none)) := rfl
    refine Eq.trans e ?_
    rw [if_pos (by omega), w64 (by omega), show ((i : Int) + 1) = ((i + 1 : Nat) : Int) from by omega]
  have hj5 : ∀ id : Int, rParse.j5 (k + 5) x0 x3 x4 (i : Int) [mkS p, mkS q, mkS [x, y, z]] t id 0 = rParse.l0 k x0 x3 (x4 ++ [⟨t, id, rp (rp (rp 0 x 0) y 1) z 2⟩]) ((i + 1 : Nat) : Int) := fun id => hl1 id
  have e : rParse.j4 (k + 6) x0 x3 x4 (i : Int) [mkS p, mkS q, mkS [x, y, z]] t 0 0 = (gripsackref9_named.f t 0 0).bind fun t119 => (if t119 = true then (if 1 < (([mkS p, mkS q, mkS [x, y, z]].length : Nat) : Int) then ((gripsackref9_Decimal.f (k + 5) (rdOf ByteArray.empty [mkS p, mkS q, mkS [x, y, z]] 1)).bind fun t121 => (rParse.j5 (k + 5) x0 x3 x4 (i : Int) [mkS p, mkS q, mkS [x, y, z]] t t121 0)) else (none)) else (rParse.j5 (k + 5) x0 x3 x4 (i : Int) [mkS p, mkS q, mkS [x, y, z]] t 0 0)) := rfl
  rw [e, named_f]
  simp only [Option.bind_some]
  cases hn : namedB t with
  | true =>
    rw [if_pos rfl, if_pos (by simp), show rdOf ByteArray.empty [mkS p, mkS q, mkS [x, y, z]] 1 = mkS q from rfl, (dec_f q (k + 5) (by omega) (by omega)).1]
    simp only [Option.bind_some]
    rw [hj5]
    rfl
  | false =>
    rw [if_neg (by decide), hj5]
    rfl
theorem j1_tag (k : Nat) (x0 : ByteArray) (x3 : List ByteArray) (x4 : List Ace) (i : Int) (p q r : List UInt8) : ∃ k', (k' = k ∨ k' = k + 1) ∧ rParse.j1 (k + 3) x0 x3 x4 i [mkS p, mkS q, mkS r] false = rParse.j4 k' x0 x3 x4 i [mkS p, mkS q, mkS r] (refTag p q) 0 0 := by
  have r0 : rdOf ByteArray.empty [mkS p, mkS q, mkS r] 0 = mkS p := rfl
  have r1 : rdOf ByteArray.empty [mkS p, mkS q, mkS r] 1 = mkS q := rfl
  have l0 : (0 : Int) < (([mkS p, mkS q, mkS r].length : Nat) : Int) := by simp
  have l1 : (1 : Int) < (([mkS p, mkS q, mkS r].length : Nat) : Int) := by simp
  have e1 : rParse.j1 (k + 3) x0 x3 x4 i [mkS p, mkS q, mkS r] false = (if 0 < (([mkS p, mkS q, mkS r].length : Nat) : Int) then (if (rdOf ByteArray.empty [mkS p, mkS q, mkS r] 0).toList = ([117] : List UInt8) then (if 1 < (([mkS p, mkS q, mkS r].length : Nat) : Int) then (rParse.j2 (k + 2) x0 x3 x4 i [mkS p, mkS q, mkS r] ((rdOf ByteArray.empty [mkS p, mkS q, mkS r] 1).toList == ([] : List UInt8)) 0 0 0) else (none)) else (rParse.j2 (k + 2) x0 x3 x4 i [mkS p, mkS q, mkS r] false 0 0 0)) else (none)) := rfl
  have e2t : rParse.j2 (k + 2) x0 x3 x4 i [mkS p, mkS q, mkS r] true 0 0 0 = rParse.j4 (k + 1) x0 x3 x4 i [mkS p, mkS q, mkS r] 1 0 0 := rfl
  have e2f : rParse.j2 (k + 2) x0 x3 x4 i [mkS p, mkS q, mkS r] false 0 0 0 = (if 0 < (([mkS p, mkS q, mkS r].length : Nat) : Int) then (if (rdOf ByteArray.empty [mkS p, mkS q, mkS r] 0).toList = ([117] : List UInt8) then (rParse.j4 (k + 1) x0 x3 x4 i [mkS p, mkS q, mkS r] 2 0 0) else (if (rdOf ByteArray.empty [mkS p, mkS q, mkS r] 0).toList = ([103] : List UInt8) then (if 1 < (([mkS p, mkS q, mkS r].length : Nat) : Int) then (rParse.j3 (k + 1) x0 x3 x4 i [mkS p, mkS q, mkS r] ((rdOf ByteArray.empty [mkS p, mkS q, mkS r] 1).toList == ([] : List UInt8)) 0 0 0) else (none)) else (rParse.j3 (k + 1) x0 x3 x4 i [mkS p, mkS q, mkS r] false 0 0 0))) else (none)) := rfl
  have e3t : rParse.j3 (k + 1) x0 x3 x4 i [mkS p, mkS q, mkS r] true 0 0 0 = rParse.j4 k x0 x3 x4 i [mkS p, mkS q, mkS r] 3 0 0 := rfl
  have e3f : rParse.j3 (k + 1) x0 x3 x4 i [mkS p, mkS q, mkS r] false 0 0 0 = (if 0 < (([mkS p, mkS q, mkS r].length : Nat) : Int) then (if (rdOf ByteArray.empty [mkS p, mkS q, mkS r] 0).toList = ([103] : List UInt8) then (rParse.j4 k x0 x3 x4 i [mkS p, mkS q, mkS r] 4 0 0) else (if (rdOf ByteArray.empty [mkS p, mkS q, mkS r] 0).toList = ([109] : List UInt8) then (rParse.j4 k x0 x3 x4 i [mkS p, mkS q, mkS r] 5 0 0) else (if (rdOf ByteArray.empty [mkS p, mkS q, mkS r] 0).toList = ([111] : List UInt8) then (rParse.j4 k x0 x3 x4 i [mkS p, mkS q, mkS r] 6 0 0) else (rParse.j4 k x0 x3 x4 i [mkS p, mkS q, mkS r] 0 0 0)))) else (none)) := rfl
  rw [r0, r1, if_pos l0, if_pos l1, toList_mkS, toList_mkS] at e1
  rw [r0, r1, if_pos l0, if_pos l1, toList_mkS, toList_mkS] at e2f
  rw [r0, if_pos l0, toList_mkS] at e3f
  unfold refTag
  by_cases a1 : p = [117]
  · rw [if_pos a1] at e1 e2f ⊢
    by_cases b : q = []
    · rw [if_pos b]
      exact ⟨k + 1, .inr rfl, by rw [e1, show (q == []) = true from by rw [b]; rfl, e2t]⟩
    · rw [if_neg b]
      exact ⟨k + 1, .inr rfl, by rw [e1, beq_eq_false_iff_ne.2 b, e2f]⟩
  · rw [if_neg a1] at e1 e2f ⊢
    by_cases a2 : p = [103]
    · rw [if_pos a2] at e2f e3f ⊢
      by_cases b : q = []
      · rw [if_pos b]
        exact ⟨k, .inl rfl, by rw [e1, e2f, show (q == []) = true from by rw [b]; rfl, e3t]⟩
      · rw [if_neg b]
        exact ⟨k, .inl rfl, by rw [e1, e2f, beq_eq_false_iff_ne.2 b, e3f]⟩
    · rw [if_neg a2] at e2f e3f ⊢
      by_cases a3 : p = [109]
      · rw [if_pos a3] at e3f ⊢
        exact ⟨k, .inl rfl, by rw [e1, e2f, e3f]⟩
      · rw [if_neg a3] at e3f ⊢
        by_cases a4 : p = [111]
        · rw [if_pos a4] at e3f ⊢
          exact ⟨k, .inl rfl, by rw [e1, e2f, e3f]⟩
        · rw [if_neg a4] at e3f ⊢
          exact ⟨k, .inl rfl, by rw [e1, e2f, e3f]⟩
/-- What is left of the parts. -/
def refRest (s : List UInt8) (acc : List Ace) (rest : List (List UInt8)) : List Ace × Bool :=
  match rest.mapM refPartL with
  | none => ([], false)
  | some r => if mayL (acc ++ r) = true ∧ textL (acc ++ r) = s then (acc ++ r, true) else ([], false)
theorem mapM_cons' (x : List UInt8) (r : List (List UInt8)) : (x :: r).mapM refPartL = (refPartL x).bind fun a => (r.mapM refPartL).map fun l => a :: l := by
  rw [List.mapM_cons]
  cases refPartL x with
  | none => rfl
  | some a => cases r.mapM refPartL <;> rfl
theorem parse_loop (s : List UInt8) (parts : List (List UInt8)) (hs : s.length ≤ 1000) (hp : parts.length ≤ 1001) (hl : ∀ x ∈ parts, x.length ≤ 1000) : ∀ (d i k : Nat) (acc : List Ace), parts.length - i = d → i ≤ parts.length → acc.length ≤ i → 12 * d + 3000 ≤ k →
    rParse.l0 k (mkS s) (parts.map mkS) acc (i : Int) = some (refRest s acc (parts.drop i))
  | 0, i, k, acc, hd, hi, ha, hk => by
    obtain ⟨k, rfl⟩ : ∃ k', k = k' + 1 := ⟨k - 1, by omega⟩
    obtain rfl : i = parts.length := by omega
    have e : rParse.l0 (k + 1) (mkS s) (parts.map mkS) acc (parts.length : Int) = if (parts.length : Int) < ((parts.map mkS).length : Int) then none else ((PRefMay.rMay.f k acc).bind fun t126 => (if t126 = true then ((PRefText.gripsackref9_TextAcl.f k acc).bind fun t127 => (if t127.toList = (mkS s).toList then (some (acc, true)) else (some (([] : List Ace), false)))) else (some (([] : List Ace), false)))) := by
      unfold rParse.l0
      rw [List.length_map, if_neg (by omega), if_neg (by omega)]
    rw [e, List.length_map, if_neg (by omega), rMay_f acc k (by omega)]
    simp only [Option.bind_some]
    unfold refRest
    rw [List.drop_length, List.mapM_nil]
    show _ = some (if mayL (acc ++ []) = true ∧ textL (acc ++ []) = s then (acc ++ [], true) else ([], false))
    rw [List.append_nil]
    by_cases hm : mayL acc = true
    · rw [if_pos hm, text_f acc k hm (by omega)]
      simp only [Option.bind_some, toList_mkS]
      by_cases ht : textL acc = s
      · rw [if_pos ht, if_pos ⟨hm, ht⟩]
      · rw [if_neg ht, if_neg (fun h => ht h.2)]
    · rw [if_neg hm, if_neg (fun h => hm h.1)]
  | d + 1, i, k, acc, hd, hi, ha, hk => by
    obtain ⟨k, rfl⟩ : ∃ k', k = k' + 10 := ⟨k - 10, by omega⟩
    have hlt : i < parts.length := by omega
    obtain ⟨x, hx⟩ : ∃ x, x = parts[i] := ⟨_, rfl⟩
    have hxl : x.length ≤ 1000 := by rw [hx]; exact hl _ (List.getElem_mem _)
    have hrd : rdOf ByteArray.empty (parts.map mkS) (i : Int) = mkS x := by
      unfold rdOf
      rw [Int.toNat_natCast, List.getD_eq_getElem?_getD, List.getElem?_map, List.getElem?_eq_getElem hlt, hx]
      rfl
    have hdrop : parts.drop i = x :: parts.drop (i + 1) := by rw [List.drop_eq_getElem_cons hlt, hx]
    have hcut := cut_f x 58 (k + 9) (by omega) (by omega)
    have hlen : ∀ y ∈ splitOn 58 x, y.length ≤ 1000 := fun y hy => Nat.le_trans (splitOn_le 58 x y hy) hxl
    have e : rParse.l0 (k + 10) (mkS s) (parts.map mkS) acc (i : Int) = ((PAclR.gripsackref9_cut.f (k + 9) (mkS x) 58).bind fun t106 => (if (t106.length : Int) = 3 then (if 2 < (t106.length : Int) then (rParse.j1 (k + 9) (mkS s) (parts.map mkS) acc (i : Int) t106 (((rdOf ByteArray.empty t106 2).size : Int) != 3)) else (none)) else (rParse.j1 (k + 9) (mkS s) (parts.map mkS) acc (i : Int) t106 true))) := by
      rw [show rParse.l0 (k + 10) (mkS s) (parts.map mkS) acc (i : Int) = rParse.l0 (k + 9 + 1) (mkS s) (parts.map mkS) acc (i : Int) from rfl]
      unfold rParse.l0
      rw [List.length_map, if_pos (by omega), if_pos (by omega), hrd]
    have hstop : ∀ t106, rParse.j1 (k + 9) (mkS s) (parts.map mkS) acc (i : Int) t106 true = some (([] : List Ace), false) := fun _ => rfl
    have hnone : refPartL x = none → refRest s acc (parts.drop i) = ([], false) := by
      intro h
      unfold refRest
      rw [hdrop, mapM_cons', h]
      rfl
    rw [e, show (58 : Int) = ((58 : UInt8).toNat : Int) from rfl, hcut]
    simp only [Option.bind_some, List.length_map]
    by_cases h3 : (splitOn 58 x).length = 3
    · obtain ⟨p, q, r, hpqr⟩ : ∃ p q r, splitOn 58 x = [p, q, r] := by
        match splitOn 58 x, h3 with
        | [a, b, c], _ => exact ⟨a, b, c, rfl⟩
      rw [if_pos (by omega), if_pos (by omega), hpqr]
      have hr : rdOf ByteArray.empty ([p, q, r].map mkS) 2 = mkS r := rfl
      rw [hr, size_mkS]
      by_cases hr3 : r.length = 3
      · obtain ⟨u, v, z, rfl⟩ : ∃ u v z, r = [u, v, z] := by
          match r, hr3 with
          | [a, b, c], _ => exact ⟨a, b, c, rfl⟩
        have hb : (((([u, v, z] : List UInt8).length : Nat) : Int) != 3) = false := rfl
        rw [hb]
        obtain ⟨k', hk', ej⟩ := j1_tag (k + 6) (mkS s) (parts.map mkS) acc (i : Int) p q [u, v, z]
        have ej2 : rParse.j1 (k + 9) (mkS s) (parts.map mkS) acc (i : Int) (([p, q, [u, v, z]] : List (List UInt8)).map mkS) false = rParse.j4 k' (mkS s) (parts.map mkS) acc (i : Int) [mkS p, mkS q, mkS [u, v, z]] (refTag p q) 0 0 := ej
        rw [ej2]
        obtain ⟨k2, rfl⟩ : ∃ k2, k' = k2 + 6 := ⟨k' - 6, by omega⟩
        rw [j4_step k2 (mkS s) (parts.map mkS) acc i p q u v z (refTag p q) (hlen q (by rw [hpqr]; simp)) (by omega) (by omega) (by omega)]
        rw [parse_loop s parts hs hp hl d (i + 1) k2 _ (by omega) (by omega) (by simp; omega) (by omega)]
        have hrp : refPartL x = some ⟨refTag p q, if namedB (refTag p q) then decL q else 0, rp (rp (rp 0 u 0) v 1) z 2⟩ := by
          unfold refPartL
          rw [hpqr]
        unfold refRest
        rw [hdrop, mapM_cons', hrp]
        simp only [Option.bind_some]
        cases (parts.drop (i + 1)).mapM refPartL with
        | none => rfl
        | some l => simp [List.append_assoc]
      · have hb : ((r.length : Int) != 3) = true := by rw [bne_iff_ne]; omega
        rw [hb, hstop, hnone]
        unfold refPartL
        rw [hpqr]
        match r, hr3 with
        | [], _ => rfl
        | [_], _ => rfl
        | [_, _], _ => rfl
        | _ :: _ :: _ :: _ :: _, _ => rfl
    · rw [if_neg (by omega), hstop, hnone]
      unfold refPartL
      match splitOn 58 x, h3 with
      | [], _ => rfl
      | [_], _ => rfl
      | [_, _], _ => rfl
      | _ :: _ :: _ :: _ :: _, _ =>
        split
        · rename_i h; simp at h
        · rfl
theorem parse_f (s : List UInt8) (k : Nat) (hs : s.length ≤ 1000) (hk : 16000 ≤ k) : rParse.f k (mkS s) = some (match parseL s with | none => ([], false) | some l => (l, true)) := by
  have hcut := cut_f s 44 k (by omega) (by omega)
  have hlen : (splitOn 44 s).length ≤ 1001 := by rw [splitOn_length]; have := List.count_le_length (a := (44 : UInt8)) (l := s); omega
  have hl : ∀ y ∈ splitOn 44 s, y.length ≤ 1000 := fun y hy => Nat.le_trans (splitOn_le 44 s y hy) hs
  have h := parse_loop s (splitOn 44 s) hs hlen hl (splitOn 44 s).length 0 k [] (by omega) (Nat.zero_le _) (by simp) (by omega)
  unfold rParse.f
  rw [size_mkS, if_neg (by omega), show (44 : Int) = ((44 : UInt8).toNat : Int) from rfl, hcut]
  simp only [Option.bind_some]
  refine Eq.trans h ?_
  rw [List.drop_zero, ← refParse_eq]
  unfold refRest refParseL
  cases (splitOn 44 s).mapM refPartL with
  | none => rfl
  | some l =>
    simp only [List.nil_append]
    split <;> rfl
end Go.Proofs.YtejgnnhmeolphaaDoor
namespace Go.Proofs.YtejgnnhmeolphaaDoor
open Go.RowKit Go.ChangeShapes Go.WideShapes Go.Deep Go.Proofs.YtejgnnhmeolphaaDoorW.PrintWords Go.Proofs.YtejgnnhmeolphaaDoor.PAclR
section
variable {H : Type} {enc : TypeId × Value → H} {w : World} {base : Nat} {spare : Nat → Bool} {held : Bool}
set_option maxRecDepth 100000 in
theorem open_aces {fuel : Nat} {a : Option Addr} {len cap : Nat} {x : DataW H × List MemPlace} (h : DataW.trod enc Tryd.prog w base spare held fuel 24 [.slice a len cap] = some x) :
    ∃ zs : List Ace, len = zs.length ∧ Kd.C k27 w a zs.length zs ∧ zs.length ≤ cap := by
  rcases open_slice Tryd.underlying24 h with ⟨hcs, _⟩ | ⟨ad, l, c, m, n, D, Pl, hcs, _, hl, hm, hmm, _, hi⟩
  · simp at hcs
    obtain ⟨rfl, rfl, rfl⟩ := hcs
    exact ⟨[], rfl, ⟨rfl, by decide, fun h => absurd h (by decide)⟩, Nat.le_refl _⟩
  · simp at hcs
    obtain ⟨rfl, rfl, rfl⟩ := hcs
    have hlm : len ≤ m := by rw [hmm]; split <;> omega
    have hC : Tryd.prog.cellsOf 27 = 3 := by kernel_rfl
    have hf : ∀ i, i < len → ∃ z : Ace, w.cell? (ad.add (i * 3)) = some (.int .i64 z.f0) ∧ w.cell? (ad.add (i * 3 + 1)) = some (.int .i64 z.f1) ∧ w.cell? (ad.add (i * 3 + 2)) = some (.int .i64 z.f2) := by
      intro i hil
      obtain ⟨cs, hc, ht⟩ := hi i (by omega)
      rw [hC] at hc
      obtain ⟨ys, n', _, _, hlen, hyl, hg⟩ := DataW.trod_struct Tryd.underlying27 ht
      obtain ⟨_, hcl, hat⟩ := World.cells?_some hc
      have h3 : Tryd.prog.cellsOf 3 = 1 := by kernel_rfl
      have g0 := hg 0 _ rfl
      have g1 := hg 1 _ rfl
      have g2 := hg 2 _ rfl
      match cs, hcl with
      | [c0, c1, c2], _ =>
        match ys, hyl with
        | [y0, y1, y2], _ =>
          simp [h3] at g0 g1 g2
          obtain ⟨n0, e0, _, _⟩ := DataW.trod_int Tryd.underlying3 g0
          obtain ⟨n1, e1, _, _⟩ := DataW.trod_int Tryd.underlying3 g1
          obtain ⟨n2, e2, _, _⟩ := DataW.trod_int Tryd.underlying3 g2
          simp at e0 e1 e2
          subst e0 e1 e2
          have k0 := hat 0 (by decide)
          have k1 := hat 1 (by decide)
          have k2 := hat 2 (by decide)
          rw [Go.Deep.add_add] at k0 k1 k2
          exact ⟨⟨n0, n1, n2⟩, by simpa using k0, by simpa using k1, by simpa using k2⟩
    obtain ⟨f, hf⟩ := Classical.skolem.1 (fun i : { i : Nat // i < len } => hf i.1 i.2)
    refine ⟨(List.range len).attach.map fun i => f ⟨i.1, List.mem_range.1 i.2⟩, by simp, ⟨rfl, by simp; unfold maxLen at hm; omega, fun _ => ⟨ad, rfl, fun j p hj => ?_⟩⟩, by simpa using hl⟩
    obtain ⟨hjl, rfl⟩ := List.getElem?_eq_some_iff.1 hj
    simp at hjl
    obtain ⟨a0, a1, a2⟩ := hf ⟨j, hjl⟩
    have e : ((List.range len).attach.map fun i => f ⟨i.1, List.mem_range.1 i.2⟩)[j]'(by simpa using hjl) = f ⟨j, hjl⟩ := by simp
    refine ⟨[.int .i64 (f ⟨j, hjl⟩).f0, .int .i64 (f ⟨j, hjl⟩).f1, .int .i64 (f ⟨j, hjl⟩).f2], rfl, by rw [e]; exact k27_mk w _, fun i u hu => ?_⟩
    have hi3 : i < 3 := (List.getElem?_eq_some_iff.1 hu).1
    have : i = 0 ∨ i = 1 ∨ i = 2 := by omega
    rcases this with rfl | rfl | rfl
    · simp at hu; subst hu; exact a0
    · simp at hu; subst hu; exact a1
    · simp at hu; subst hu; exact a2
end
end Go.Proofs.YtejgnnhmeolphaaDoor
namespace Go.Proofs.YtejgnnhmeolphaaDoor
open Go.RowKit Go.Sort
theorem one_laid {W : World} {l : List (String × DataW Unit)} {x : String × DataW Unit} (nm : String) (h : laidMetH Tryd.prog l W) (e : ((l.filter fun x => x.2.handleName?.isNone).filter fun y => y.1 == nm) = [x]) : laidMet Tryd.prog [x] W := by
  have := (laidMetH_iff.1 h).1.filter (fun y => y.1 == nm)
  rw [e] at this
  exact this
theorem row_es (u : TypeId) (h : Tryd.prog.typeName? 3 u = some "*errors.errorString") : u = 118 :=
  typeName_ptr_named (nm := "errors.errorString") (by rw [show "*" ++ "errors.errorString" = "*errors.errorString" by decide]; kernel_rfl) (by kernel_rfl) (by decide) u (by rw [show "*" ++ "errors.errorString" = "*errors.errorString" by decide]; exact h)
theorem good_start {W : World} (hs : W.ShapedOpen Tryd.prog) (h : laidMetH Tryd.prog Rows.aclModesRow.laid W) : Good W := by
  refine ⟨hs, ?_, ?_, ?_⟩
  · exact Lib.tabIs_of_head (t := 106) (e := 90) (n := 20) gPow (by kernel_rfl) (by kernel_rfl) (by kernel_rfl) (by kernel_rfl) (by kernel_rfl) (one_laid (x := ("internal/strconv.uint64pow10", Lib.tabData .u64 Lib.pow10Tab)) "internal/strconv.uint64pow10" h (by kernel_rfl))
  · have hg : Tryd.prog.globalNamed "strconv.ErrSyntax" = some 1 := by kernel_rfl
    obtain ⟨a, s, hv, -, -, -⟩ := laid_sentinel (one_laid (x := ("strconv.ErrSyntax", Rows.laid_strconv_ErrSyntax)) "strconv.ErrSyntax" h (by kernel_rfl)) hg (ti := 66) (by kernel_rfl) Tryd.underlying66 row_es Tryd.underlying118 Tryd.underlying120 rfl rfl Tryd.underlying9 (by kernel_rfl) (by kernel_rfl)
    exact ⟨_, _, by have h0 := World.var?_cell hg hv 0; simpa using h0⟩
  · have hg : Tryd.prog.globalNamed "strconv.ErrRange" = some 2 := by kernel_rfl
    obtain ⟨a, s, hv, -, -, -⟩ := laid_sentinel (one_laid (x := ("strconv.ErrRange", Rows.laid_strconv_ErrRange)) "strconv.ErrRange" h (by kernel_rfl)) hg (ti := 66) (by kernel_rfl) Tryd.underlying66 row_es Tryd.underlying118 Tryd.underlying120 rfl rfl Tryd.underlying9 (by kernel_rfl) (by kernel_rfl)
    exact ⟨_, _, by have h0 := World.var?_cell hg hv 0; simpa using h0⟩
end Go.Proofs.YtejgnnhmeolphaaDoor
namespace Go.Proofs.YtejgnnhmeolphaaDoor
open Go.RowKit Go.Proofs.YtejgnnhmeolphaaDoorW.PrintWords Go.Proofs.YtejgnnhmeolphaaDoor.PAclR Go.Proofs.YtejgnnhmeolphaaDoor.PRefMay Go.Proofs.YtejgnnhmeolphaaDoor.PRefText Go.Proofs.YtejgnnhmeolphaaDoor.PRefParse
set_option maxHeartbeats 2000000 in
set_option maxRecDepth 100000 in
theorem all_guard (A B : Option Addr) (c d : Nat) (l m : List Ace) (s : List UInt8) (mode : Int) (w : World) (hG : Good w) (h : 300 < s.length ∨ 60 < l.length ∨ 60 < m.length) (hs : s.length ≤ 9223372036854775807) (hl : l.length ≤ 9223372036854775807) (hm : m.length ≤ 9223372036854775807) :
    Calls Tryd.prog 6 #[.slice A l.length c, .slice B m.length d, .string (mkS s), .int .i64 mode] w fun e w' => e = .returned (.bool true) ∧ Below w.heap.size w w' := by
  have HG := Aside0.mk hG
  clear hG
  have hg : (300 : Int) < (s.length : Int) ∨ ((s.length : Int) ≤ 300 ∧ (60 : Int) < (l.length : Int)) ∨ ((s.length : Int) ≤ 300 ∧ (l.length : Int) ≤ 60 ∧ (60 : Int) < (m.length : Int)) := by omega
  clear h
  rcases hg with h1 | ⟨h1, h2⟩ | ⟨h1, h2, h3⟩
  all_goals
    go_enter Tryd.func6, Tryd.ntmps6
    go_wp2_with (go_at_call 11; refine (awake_any _ (HG.out.below (by go_grown))).mono ?_; rintro e w4 ⟨rfl, hb4⟩)
    go_ret
    exact ⟨rfl, below_next (by go_grown) hb4⟩
/-- What a text says, and whether it says anything. -/
def parseP (s : List UInt8) : List Ace × Bool := match parseL s with | none => ([], false) | some l => (l, true)
theorem parseP_len (s : List UInt8) : (parseP s).1.length ≤ 1000 := by
  unfold parseP
  cases hp : parseL s with
  | none => simp
  | some l => exact (may_parts (parse_text hp).1).2.1
theorem all_parse (s : List UInt8) (w : World) (hG : Good w) (hs : s.length < 1000000) : Calls Tryd.prog 9 #[.string (mkS s)] w fun e w' =>
    ∃ Ax cx, e = .returned (.tuple #[.slice Ax (parseP s).1.length cx, .bool (parseP s).2]) ∧ (parseP s).1.length ≤ cx ∧ Kd.C k27 w' Ax (parseP s).1.length (parseP s).1 ∧ Below w.heap.size w w' := by
  refine (parse_any s w hG hs).mono fun e w' h => ?_
  unfold ParseDone at h
  unfold parseP
  cases hp : parseL s with
  | none =>
    rw [hp] at h
    exact ⟨none, 0, h.1, Nat.le_refl _, ⟨rfl, by decide, fun h => absurd h (by decide)⟩, h.2⟩
  | some l =>
    rw [hp] at h
    obtain ⟨⟨v, rfl, hR⟩, hb⟩ := h
    obtain ⟨A, c, rfl, hc, hC⟩ := Kd.R_reads hR
    exact ⟨A, c, rfl, hc, hC, hb⟩
theorem below_drawn {w w' : World} (h : Drawn0 w w') : Below w.heap.size w w' := by
  obtain ⟨n, rfl⟩ := h.out
  exact below_drewN (Below.refl _ _) n
set_option maxHeartbeats 2000000 in
set_option maxRecDepth 100000 in
theorem all_main (A B : Option Addr) (c d : Nat) (l m : List Ace) (s : List UInt8) (mode : Int) (w : World) (hG : Good w) (hl : Kd.C k27 w A l.length l) (hc : l.length ≤ c) (hm : Kd.C k27 w B m.length m) (hd : m.length ≤ d) (h0 : s.length ≤ 300) (h1 : l.length ≤ 60) (h2 : m.length ≤ 60) (hmode : -9223372036854775808 ≤ mode ∧ mode ≤ 9223372036854775807) :
    Calls Tryd.prog 6 #[.slice A l.length c, .slice B m.length d, .string (mkS s), .int .i64 mode] w fun e w' => e = .returned (.bool true) ∧ Below w.heap.size w w' := by
  have HG := Aside0.mk hG
  have HL := Aside0.mk hl
  have HM := Aside0.mk hm
  clear hG hl hm
  have h0' : (s.length : Int) ≤ 300 := by omega
  have h1' : (l.length : Int) ≤ 60 := by omega
  have h2' : (m.length : Int) ≤ 60 := by omega
  go_enter Tryd.func6, Tryd.ntmps6
  go_wp2_with fail
  refine (all_parse s w HG.out (by omega)).mono ?_
  rintro e w1 ⟨Ax, cx, rfl, hcx, hCx, hb1⟩
  have hpl := parseP_len s
  obtain ⟨K, hK⟩ : ∃ K : Nat, 16000 ≤ K := ⟨16000, Nat.le_refl _⟩
  have hpf : rParse.f K (mkS s) = some ((parseP s).1, (parseP s).2) := by
    rw [parse_f s K (by omega) hK]
    unfold parseP
    cases parseL s <;> rfl
  obtain ⟨P, hP⟩ : ∃ P, P = (parseP s).1 := ⟨_, rfl⟩
  obtain ⟨ok, hok⟩ : ∃ ok, ok = (parseP s).2 := ⟨_, rfl⟩
  rw [← hP, ← hok] at hpf
  rw [← hP] at hcx hCx hpl ⊢
  rw [← hok]
  have HPF := Aside0.mk hpf
  have HB1 := Aside0.mk hb1
  have HX := Aside0.mk hCx
  clear hpf hb1 hCx hP hok
  go_wp2_with fail
  refine (rParse.calls K (mkS s) P ok w1 HPF.out).mono ?_
  rintro e w2 ⟨vy, rfl, hRy, hb2⟩
  obtain ⟨Ay, cy, rfl, hcy, hCy⟩ := Kd.R_reads hRy
  have HB2 := Aside0.mk (below_next HB1.out hb2)
  have HX2 := Aside0.mk (Kd.C_below HX.out hb2)
  have HY2 := Aside0.mk hCy
  have HL2 := Aside0.mk (Kd.C_below HL.out HB2.out)
  have HM2 := Aside0.mk (Kd.C_below HM.out HB2.out)
  have hbc := below_alloc (Below.refl w2.heap.size w2) (.cells #[.slice Ay P.length cy, .bool ok] 42)
  have hyb := heap_alloc_new w2 (.cells #[.slice Ay P.length cy, .bool ok] 42)
  have HPP := Aside0.mk (show gripsackref9_SameAcl.f K P P = some true by rw [same_f P P K (by omega) (by omega)]; rw [(sameL_iff P P).2 rfl])
  have HSM := Aside0.mk (same_f l m K (by omega) (by omega))
  have HFM := Aside0.mk (show gripsackref9_SameAcl.f K (fromModeL mode) (fromModeL mode) = some true by rw [same_f _ _ K (by show 3 ≤ 1000000; decide) (by show 3 + 1 ≤ K; omega)]; rw [(sameL_iff _ _).2 rfl])
  clear hRy hCy hb2
  cases hmay : mayL l with
  | true =>
    have HMT := Aside0.mk hmay
    have HPM := Aside0.mk (may_perms hmay)
    go_wp2_with (first
      | (go_at_call 10; refine (aclMay_any A c l _ (Kd.C_below HL2.out hbc) hc (by omega)).mono ?_; rintro e wq ⟨rfl, hbq⟩; have hbc := below_next hbc hbq; have hyb := blk_below hyb hbq; have y0 := (blk_cell hyb 0).trans (rfl : _ = some (Value.slice Ay P.length cy)); have y1 := (blk_cell hyb 1).trans (rfl : _ = some (Value.bool ok)))
      | (go_at_call 16; refine (rMay.calls K A c l (mayL l) _ (Kd.C_below HL2.out hbc) hc (rMay_f l K (by omega))).mono ?_; rintro e wq ⟨rfl, hbq⟩; have hbc := below_next hbc hbq; have hyb := blk_below hyb hbq; have y0 := (blk_cell hyb 0).trans (rfl : _ = some (Value.slice Ay P.length cy)); have y1 := (blk_cell hyb 1).trans (rfl : _ = some (Value.bool ok)))
      | (go_at_call 18; have hmark2 : True := trivial; refine (same_any A B c d l m _ (Kd.C_below HL2.out hbc) (Kd.C_below HM2.out hbc) hc hd (by omega) (by omega)).mono ?_; rintro e wq ⟨rfl, hbq⟩; have hbc := below_next hbc hbq; have hyb := blk_below hyb hbq; have y0 := (blk_cell hyb 0).trans (rfl : _ = some (Value.slice Ay P.length cy)); have y1 := (blk_cell hyb 1).trans (rfl : _ = some (Value.bool ok)))
      | (go_at_call 14; refine (acl_From.calls mode _ _ (from_any mode)).mono ?_; rintro e wq ⟨vF, rfl, hRF, hbq⟩; obtain ⟨AF, cF, rfl, hcF, hCF⟩ := Kd.R_reads hRF; have hbc := below_next hbc hbq; have hyb := blk_below hyb hbq; have y0 := (blk_cell hyb 0).trans (rfl : _ = some (Value.slice Ay P.length cy)); have y1 := (blk_cell hyb 1).trans (rfl : _ = some (Value.bool ok)))
      | (go_at_call 19; refine (gripsackref9_FromMode.calls mode _ _ (fromMode_any mode)).mono ?_; rintro e wq ⟨vG, rfl, hRG, hbq⟩; obtain ⟨AG, cG, rfl, hcG, hCG⟩ := Kd.R_reads hRG; have hCF := Kd.C_below hCF hbq; have hbc := below_next hbc hbq; have hyb := blk_below hyb hbq; have y0 := (blk_cell hyb 0).trans (rfl : _ = some (Value.slice Ay P.length cy)); have y1 := (blk_cell hyb 1).trans (rfl : _ = some (Value.bool ok)))
      | (go_at_call 13; refine (aclText_any A c l _ (HG.out.below (below_next HB2.out hbc)) (Kd.C_below HL2.out hbc) hc (by omega) (may_parts HMT.out).1 (may_parts HMT.out).2.2).mono ?_; rintro e wq ⟨rfl, hbq⟩; have hbc := below_next hbc hbq; have hyb := blk_below hyb hbq; have y0 := (blk_cell hyb 0).trans (rfl : _ = some (Value.slice Ay P.length cy)); have y1 := (blk_cell hyb 1).trans (rfl : _ = some (Value.bool ok)))
      | (go_at_call 20; refine (gripsackref9_TextAcl.calls K A c l (mkS (textL l)) _ (Kd.C_below HL2.out hbc) hc (text_f l K HMT.out (by omega))).mono ?_; rintro e wq ⟨rfl, hbq⟩; have hbc := below_next hbc hbq; have hyb := blk_below hyb hbq; have y0 := (blk_cell hyb 0).trans (rfl : _ = some (Value.slice Ay P.length cy)); have y1 := (blk_cell hyb 1).trans (rfl : _ = some (Value.bool ok)))
      | (go_at_call 12; refine (mode_any A c l _ (Kd.C_below HL2.out hbc) hc (by omega) HPM.out.1 HPM.out.2.1 HPM.out.2.2.1.2 HPM.out.2.2.2).mono ?_; rintro e wq ⟨rfl, hbq⟩; have hbc := below_next hbc hbq; have hyb := blk_below hyb hbq; have y0 := (blk_cell hyb 0).trans (rfl : _ = some (Value.slice Ay P.length cy)); have y1 := (blk_cell hyb 1).trans (rfl : _ = some (Value.bool ok)))
      | (go_at_call 21; refine (gripsackref9_ModeAcl.calls K A c l (modeL l) _ (Kd.C_below HL2.out hbc) hc (mode_f l K HMT.out (by omega))).mono ?_; rintro e wq ⟨rfl, hdq⟩; have hbq := below_drawn hdq; have hbc := below_next hbc hbq; have hyb := blk_below hyb hbq; have y0 := (blk_cell hyb 0).trans (rfl : _ = some (Value.slice Ay P.length cy)); have y1 := (blk_cell hyb 1).trans (rfl : _ = some (Value.bool ok)))
      | (go_at_call 11; refine (awake_any _ (HG.out.below (below_next HB2.out hbc))).mono ?_; rintro e wq ⟨rfl, hbq⟩; have hbc := below_next hbc hbq; have hyb := blk_below hyb hbq; have y0 := (blk_cell hyb 0).trans (rfl : _ = some (Value.slice Ay P.length cy)); have y1 := (blk_cell hyb 1).trans (rfl : _ = some (Value.bool ok)))
      | (go_at_call 17; have hh := hCG; refine (PAclR.gripsackref9_SameAcl.calls K AF cF (fromModeL mode) AG cG (fromModeL mode) true _ hCF hcF hCG hcG HFM.out).mono ?_; rintro e wq ⟨rfl, hdq⟩; have hbq := below_drawn hdq; have hbc := below_next hbc hbq; have hyb := blk_below hyb hbq; have y0 := (blk_cell hyb 0).trans (rfl : _ = some (Value.slice Ay P.length cy)); have y1 := (blk_cell hyb 1).trans (rfl : _ = some (Value.bool ok)))
      | (go_at_call 17; have hh := hmark2; refine (PAclR.gripsackref9_SameAcl.calls K A c l B d m (sameL l m) _ (Kd.C_below HL2.out hbc) hc (Kd.C_below HM2.out hbc) hd HSM.out).mono ?_; rintro e wq ⟨rfl, hdq⟩; have hbq := below_drawn hdq; have hbc := below_next hbc hbq; have hyb := blk_below hyb hbq; have y0 := (blk_cell hyb 0).trans (rfl : _ = some (Value.slice Ay P.length cy)); have y1 := (blk_cell hyb 1).trans (rfl : _ = some (Value.bool ok)))
      | (go_at_call 17; refine (PAclR.gripsackref9_SameAcl.calls K Ax cx P Ay cy P true _ (Kd.C_below HX2.out hbc) hcx (Kd.C_below HY2.out hbc) hcy HPP.out).mono ?_; rintro e wq ⟨rfl, hdq⟩; have hbq := below_drawn hdq; have hbc := below_next hbc hbq; have hyb := blk_below hyb hbq; have y0 := (blk_cell hyb 0).trans (rfl : _ = some (Value.slice Ay P.length cy)); have y1 := (blk_cell hyb 1).trans (rfl : _ = some (Value.bool ok))))
    all_goals
      go_ret
      exact ⟨rfl, below_next HB2.out hbc⟩
  | false =>
    go_wp2_with (first
      | (go_at_call 10; refine (aclMay_any A c l _ (Kd.C_below HL2.out hbc) hc (by omega)).mono ?_; rintro e wq ⟨rfl, hbq⟩; have hbc := below_next hbc hbq; have hyb := blk_below hyb hbq; have y0 := (blk_cell hyb 0).trans (rfl : _ = some (Value.slice Ay P.length cy)); have y1 := (blk_cell hyb 1).trans (rfl : _ = some (Value.bool ok)))
      | (go_at_call 16; refine (rMay.calls K A c l (mayL l) _ (Kd.C_below HL2.out hbc) hc (rMay_f l K (by omega))).mono ?_; rintro e wq ⟨rfl, hbq⟩; have hbc := below_next hbc hbq; have hyb := blk_below hyb hbq; have y0 := (blk_cell hyb 0).trans (rfl : _ = some (Value.slice Ay P.length cy)); have y1 := (blk_cell hyb 1).trans (rfl : _ = some (Value.bool ok)))
      | (go_at_call 18; have hmark2 : True := trivial; refine (same_any A B c d l m _ (Kd.C_below HL2.out hbc) (Kd.C_below HM2.out hbc) hc hd (by omega) (by omega)).mono ?_; rintro e wq ⟨rfl, hbq⟩; have hbc := below_next hbc hbq; have hyb := blk_below hyb hbq; have y0 := (blk_cell hyb 0).trans (rfl : _ = some (Value.slice Ay P.length cy)); have y1 := (blk_cell hyb 1).trans (rfl : _ = some (Value.bool ok)))
      | (go_at_call 14; refine (acl_From.calls mode _ _ (from_any mode)).mono ?_; rintro e wq ⟨vF, rfl, hRF, hbq⟩; obtain ⟨AF, cF, rfl, hcF, hCF⟩ := Kd.R_reads hRF; have hbc := below_next hbc hbq; have hyb := blk_below hyb hbq; have y0 := (blk_cell hyb 0).trans (rfl : _ = some (Value.slice Ay P.length cy)); have y1 := (blk_cell hyb 1).trans (rfl : _ = some (Value.bool ok)))
      | (go_at_call 19; refine (gripsackref9_FromMode.calls mode _ _ (fromMode_any mode)).mono ?_; rintro e wq ⟨vG, rfl, hRG, hbq⟩; obtain ⟨AG, cG, rfl, hcG, hCG⟩ := Kd.R_reads hRG; have hCF := Kd.C_below hCF hbq; have hbc := below_next hbc hbq; have hyb := blk_below hyb hbq; have y0 := (blk_cell hyb 0).trans (rfl : _ = some (Value.slice Ay P.length cy)); have y1 := (blk_cell hyb 1).trans (rfl : _ = some (Value.bool ok)))
      | (go_at_call 11; refine (awake_any _ (HG.out.below (below_next HB2.out hbc))).mono ?_; rintro e wq ⟨rfl, hbq⟩; have hbc := below_next hbc hbq; have hyb := blk_below hyb hbq; have y0 := (blk_cell hyb 0).trans (rfl : _ = some (Value.slice Ay P.length cy)); have y1 := (blk_cell hyb 1).trans (rfl : _ = some (Value.bool ok)))
      | (go_at_call 17; have hh := hCG; refine (PAclR.gripsackref9_SameAcl.calls K AF cF (fromModeL mode) AG cG (fromModeL mode) true _ hCF hcF hCG hcG HFM.out).mono ?_; rintro e wq ⟨rfl, hdq⟩; have hbq := below_drawn hdq; have hbc := below_next hbc hbq; have hyb := blk_below hyb hbq; have y0 := (blk_cell hyb 0).trans (rfl : _ = some (Value.slice Ay P.length cy)); have y1 := (blk_cell hyb 1).trans (rfl : _ = some (Value.bool ok)))
      | (go_at_call 17; have hh := hmark2; refine (PAclR.gripsackref9_SameAcl.calls K A c l B d m (sameL l m) _ (Kd.C_below HL2.out hbc) hc (Kd.C_below HM2.out hbc) hd HSM.out).mono ?_; rintro e wq ⟨rfl, hdq⟩; have hbq := below_drawn hdq; have hbc := below_next hbc hbq; have hyb := blk_below hyb hbq; have y0 := (blk_cell hyb 0).trans (rfl : _ = some (Value.slice Ay P.length cy)); have y1 := (blk_cell hyb 1).trans (rfl : _ = some (Value.bool ok)))
      | (go_at_call 17; refine (PAclR.gripsackref9_SameAcl.calls K Ax cx P Ay cy P true _ (Kd.C_below HX2.out hbc) hcx (Kd.C_below HY2.out hbc) hcy HPP.out).mono ?_; rintro e wq ⟨rfl, hdq⟩; have hbq := below_drawn hdq; have hbc := below_next hbc hbq; have hyb := blk_below hyb hbq; have y0 := (blk_cell hyb 0).trans (rfl : _ = some (Value.slice Ay P.length cy)); have y1 := (blk_cell hyb 1).trans (rfl : _ = some (Value.bool ok))))
    all_goals
      go_ret
      exact ⟨rfl, below_next HB2.out hbc⟩
/-- As the row hands it over. -/
theorem all_row (A : Option Addr) (c : Nat) (l : List Ace) (B : Option Addr) (d : Nat) (m : List Ace) (s : ByteArray) (mode : Int) (w : World) (hG : Good w) (hl : Kd.C k27 w A l.length l) (hc : l.length ≤ c) (hm : Kd.C k27 w B m.length m) (hd : m.length ≤ d) (hs : s.size ≤ 140737488351232) (hmode : -9223372036854775808 ≤ mode ∧ mode ≤ 9223372036854775807) :
    Calls Tryd.prog 6 #[.slice A l.length c, .slice B m.length d, .string s, .int .i64 mode] w fun e w' => e = .returned (.bool true) ∧ Below w.heap.size w w' := by
  obtain ⟨t, rfl⟩ := exists_mkS s
  rw [size_mkS] at hs
  by_cases h : 300 < t.length ∨ 60 < l.length ∨ 60 < m.length
  · exact all_guard A B c d l m t mode w hG h (by omega) hl.2.1 hm.2.1
  · exact all_main A B c d l m t mode w hG hl hc hm hd (by omega) (by omega) (by omega) hmode
end Go.Proofs.YtejgnnhmeolphaaDoor
