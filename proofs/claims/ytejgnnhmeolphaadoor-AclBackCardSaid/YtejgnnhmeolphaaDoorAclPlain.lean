/- Plain laws of access lists: a list is told again by its text; what a list that may be is made of. -/
import Derived.Test.YtejgnnhmeolphaaDoorAclMake
import Derived.Test.YtejgnnhmeolphaaDoorAclLaw
set_option linter.unusedVariables false
set_option linter.unusedSimpArgs false
namespace Go.Proofs.YtejgnnhmeolphaaDoor
open Go.RowKit Go.Proofs.YtejgnnhmeolphaaDoorW.PrintWords Go.Proofs.YtejgnnhmeolphaaDoor.PAclR

/- Numbers as text. -/
theorem dec_digit (u : Nat) : ∀ x ∈ Lib.decDigits u, 48 ≤ x.toNat ∧ x.toNat ≤ 57 := by
  induction u using Nat.strongRecOn with
  | ind u ih =>
    intro x hx
    rw [Lib.decDigits] at hx
    split at hx
    · rename_i h
      rw [List.mem_singleton] at hx
      subst hx
      simp; omega
    · rename_i h
      rcases List.mem_append.1 hx with hx | hx
      · exact ih (u / 10) (by omega) x hx
      · rw [List.mem_singleton] at hx
        subst hx
        simp; omega
theorem parse_snoc (c : UInt8) : ∀ (l : List UInt8) (acc : Nat), Lib.parseUint10 acc (l ++ [c]) = match Lib.parseUint10 acc l with | .ok v => Lib.parseUint10 v [c] | e => e
  | [], acc => rfl
  | b :: l, acc => by
    simp only [List.cons_append, Lib.parseUint10]
    split
    · split
      · rfl
      · split
        · rfl
        · exact parse_snoc c l _
    · rfl
theorem parse_dec (u : Nat) (hu : u < 1000000000000000000) : Lib.parseUint10 0 (Lib.decDigits u) = .ok u := by
  induction u using Nat.strongRecOn with
  | ind u ih =>
    rw [Lib.decDigits]
    split
    · rename_i h
      simp only [Lib.parseUint10]
      rw [if_pos (by simp; omega), if_neg (by omega), if_neg (by simp; omega)]
      simp; omega
    · rename_i h
      rw [parse_snoc, ih (u / 10) (by omega) (by omega)]
      simp only [Lib.parseUint10]
      rw [if_pos (by simp; omega), if_neg (by omega), if_neg (by simp; omega)]
      simp; omega
theorem dec_ne (u : Nat) : Lib.decDigits u ≠ [] := by
  rw [Lib.decDigits]
  split <;> simp
theorem itoa_dec {n : Int} (h : 0 ≤ n) : Lib.itoa n = Lib.decDigits n.toNat := by unfold Lib.itoa; rw [if_neg (by omega)]
theorem atoi_itoa (n : Int) (h0 : 0 ≤ n) (h1 : n < 1000000000000000000) : Lib.atoiAll (Lib.itoa n) = .ok n := by
  rw [itoa_dec h0]
  have hp := parse_dec n.toNat (by omega)
  have hd := dec_digit n.toNat
  have hn := dec_ne n.toNat
  generalize Lib.decDigits n.toNat = l at hp hd hn ⊢
  cases l with
  | nil => exact absurd rfl hn
  | cons c r =>
    have hc := hd c (by simp)
    have hne : ¬ (c.toNat = 43 ∨ c.toNat = 45) := by omega
    have hne2 : ¬ c.toNat = 45 := by omega
    simp only [Lib.atoiAll]
    rw [if_neg hne]
    unfold Lib.parseMag
    rw [if_neg (by simp), hp]
    simp only
    rw [if_neg (by omega), if_neg (by omega), if_neg hne2]
    congr 1
    omega

/- A text cut at each of a byte. -/
theorem splitOn_miss (c : UInt8) : ∀ l : List UInt8, c ∉ l → splitOn c l = [l]
  | [], _ => rfl
  | b :: l, h => by
    have hb : b ≠ c := fun e => h (e ▸ List.mem_cons_self)
    have hl : c ∉ l := fun e => h (List.mem_cons_of_mem _ e)
    simp only [splitOn]
    rw [if_neg hb, splitOn_miss c l hl]
theorem splitOn_cut (c : UInt8) : ∀ a r : List UInt8, c ∉ a → splitOn c (a ++ c :: r) = a :: splitOn c r
  | [], r, _ => by simp [splitOn]
  | b :: a, r, h => by
    have hb : b ≠ c := fun e => h (e ▸ List.mem_cons_self)
    have ha : c ∉ a := fun e => h (List.mem_cons_of_mem _ e)
    simp only [List.cons_append, splitOn]
    rw [if_neg hb, splitOn_cut c a r ha]
theorem join_cons (c : UInt8) (x y : List UInt8) (r : List (List UInt8)) : Lib.join (x :: y :: r) [c] = x ++ c :: Lib.join (y :: r) [c] := by
  simp [Lib.join, List.intercalate, List.intersperse]
theorem split_join (c : UInt8) : ∀ xs : List (List UInt8), xs ≠ [] → (∀ x ∈ xs, c ∉ x) → splitOn c (Lib.join xs [c]) = xs
  | [], h, _ => absurd rfl h
  | [x], _, h => by rw [Lib.join_one]; exact splitOn_miss c x (h x (by simp))
  | x :: y :: r, _, h => by
    rw [join_cons, splitOn_cut c x _ (h x (by simp)), split_join c (y :: r) (by simp) (fun z hz => h z (List.mem_cons_of_mem _ hz))]

/- A part's text. -/
theorem rwx_back8 : ∀ p : Fin 8, rightsOf (if Go.bits .and .i64 (p.val : Int) 4 = 0 then 45 else 114) (if Go.bits .and .i64 ((p.val : Int) * 2) 4 = 0 then 45 else 119) (if Go.bits .and .i64 ((p.val : Int) * 4) 4 = 0 then 45 else 120) = p.val := by decide +kernel
theorem rwx_back (p : Int) (h0 : 0 ≤ p) (h1 : p ≤ 7) : ∃ x y z, rwxP p = [x, y, z] ∧ rightsOf x y z = p ∧ (∀ b ∈ [x, y, z], b ≠ 58 ∧ b ≠ 44) := by
  refine ⟨_, _, _, rfl, ?_, ?_⟩
  · have h := rwx_back8 ⟨p.toNat, by omega⟩
    have e : ((p.toNat : Nat) : Int) = p := Int.toNat_of_nonneg h0
    simp only [e] at h
    exact h
  · intro b hb
    simp only [List.mem_cons, List.not_mem_nil, or_false] at hb
    rcases hb with rfl | rfl | rfl <;> split <;> decide
theorem head_back (t : Int) (h0 : 1 ≤ t) (h1 : t ≤ 6) : headIdx (headOf t) = (if namedB t then t - 1 else t) ∧ (∀ b ∈ headOf t, b ≠ 58 ∧ b ≠ 44) := by
  have : t = 1 ∨ t = 2 ∨ t = 3 ∨ t = 4 ∨ t = 5 ∨ t = 6 := by omega
  rcases this with rfl | rfl | rfl | rfl | rfl | rfl <;> exact ⟨by decide +kernel, by decide⟩
/-- The Id's text. -/
def idText (a : Ace) : List UInt8 := if namedB a.f0 then Lib.itoa a.f1 else []
theorem id_bytes (a : Ace) (h : 0 ≤ a.f1) : ∀ b ∈ idText a, b ≠ 58 ∧ b ≠ 44 := by
  intro b hb
  unfold idText at hb
  split at hb
  · rw [itoa_dec h] at hb
    have := dec_digit _ b hb
    constructor <;> (rintro rfl; simp at this)
  · simp at hb
/-- What a part that may be is. -/
def GoodAce (a : Ace) : Prop := 1 ≤ a.f0 ∧ a.f0 ≤ 6 ∧ mayAceB a = true
theorem good_nums {a : Ace} (h : GoodAce a) : 0 ≤ a.f1 ∧ a.f1 ≤ 2147483647 ∧ 0 ≤ a.f2 ∧ a.f2 ≤ 7 ∧ (namedB a.f0 = false → a.f1 = 0) := by
  have h3 := h.2.2
  simp only [mayAceB, Bool.and_eq_true, decide_eq_true_eq, Bool.or_eq_true, beq_iff_eq] at h3
  refine ⟨h3.1.1.2, h3.1.2, h3.1.1.1.1, h3.1.1.1.2, fun hn => ?_⟩
  rcases h3.2 with h | h
  · exact h
  · rw [hn] at h; cases h
theorem aceText_split (a : Ace) (h : GoodAce a) : splitOn 58 (aceText a) = [headOf a.f0, idText a, rwxP a.f2] := by
  obtain ⟨g0, g1, g2, g3, _⟩ := good_nums h
  obtain ⟨x, y, z, e, _, hb⟩ := rwx_back a.f2 g2 g3
  have hh := (head_back a.f0 h.1 h.2.1).2
  have hi := id_bytes a g0
  have e1 : aceText a = headOf a.f0 ++ 58 :: (idText a ++ 58 :: rwxP a.f2) := by unfold aceText idText; simp
  rw [e1, splitOn_cut 58 _ _ (fun hm => (hh _ hm).1 rfl), splitOn_cut 58 _ _ (fun hm => (hi _ hm).1 rfl), splitOn_miss 58 _ (by rw [e]; exact fun hm => (hb _ hm).1 rfl)]
theorem aceText_comma (a : Ace) (h : GoodAce a) : (44 : UInt8) ∉ aceText a := by
  obtain ⟨g0, g1, g2, g3, _⟩ := good_nums h
  obtain ⟨x, y, z, e, _, hb⟩ := rwx_back a.f2 g2 g3
  have hh := (head_back a.f0 h.1 h.2.1).2
  have hi := id_bytes a g0
  have e1 : aceText a = headOf a.f0 ++ 58 :: (idText a ++ 58 :: rwxP a.f2) := by unfold aceText idText; simp
  rw [e1]
  intro hm
  rcases List.mem_append.1 hm with hm | hm
  · exact (hh _ hm).2 rfl
  rcases List.mem_cons.1 hm with hm | hm
  · exact absurd hm (by decide)
  rcases List.mem_append.1 hm with hm | hm
  · exact (hi _ hm).2 rfl
  rcases List.mem_cons.1 hm with hm | hm
  · exact absurd hm (by decide)
  · rw [e] at hm; exact (hb _ hm).2 rfl
theorem part_back (a : Ace) (h : GoodAce a) : partL (aceText a) = some a := by
  obtain ⟨g0, g1, g2, g3, g4⟩ := good_nums h
  obtain ⟨x, y, z, e, hr, _⟩ := rwx_back a.f2 g2 g3
  have hh := (head_back a.f0 h.1 h.2.1).1
  unfold partL
  rw [aceText_split a h, e]
  simp only
  rw [hh, hr]
  cases hn : namedB a.f0 with
  | true =>
    have ht : a.f0 = 2 ∨ a.f0 = 4 := by simpa [namedB] using hn
    have hi : idText a = Lib.itoa a.f1 := by unfold idText; rw [if_pos hn]
    have hne : ¬ Lib.itoa a.f1 = [] := by rw [itoa_dec g0]; exact dec_ne _
    rw [hi, if_pos rfl, if_neg (by omega), if_neg hne, atoi_itoa a.f1 g0 (by omega)]
    simp
  | false =>
    have hi : idText a = [] := by unfold idText; rw [hn]; rfl
    have h1 := h.1
    rw [hi]
    simp only [Bool.false_eq_true, if_false, if_true]
    rw [if_neg (by omega)]
    have := g4 hn
    cases a
    simp_all
theorem map_back : ∀ l : List Ace, (∀ a ∈ l, GoodAce a) → (l.map aceText).mapM partL = some l
  | [], _ => rfl
  | a :: l, h => by
    rw [List.map_cons, List.mapM_cons, part_back a (h a (by simp)), map_back l (fun b hb => h b (by simp [hb]))]
    rfl
/-- A list's text. -/
def textL (l : List Ace) : List UInt8 := Lib.join (l.map aceText) [44]
theorem may_good {l : List Ace} (h : mayL l = true) : l ≠ [] ∧ ∀ a ∈ l, GoodAce a := by
  refine ⟨fun e => ?_, fun a ha => ?_⟩
  · rw [e] at h; exact absurd h (by decide)
  · unfold mayL at h
    split at h
    · cases h
    · rename_i x m hs
      exact scan_good l _ _ _ hs a ha
/-- A list that may be is told again by its text. -/
theorem parse_back {l : List Ace} (h : mayL l = true) : parseL (textL l) = some l := by
  obtain ⟨hne, hg⟩ := may_good h
  have hs : splitOn 44 (textL l) = l.map aceText := split_join 44 _ (by simpa using hne) (fun x hx => by
    obtain ⟨a, ha, rfl⟩ := List.mem_map.1 hx
    exact aceText_comma a (hg a ha))
  unfold parseL
  rw [hs, map_back l hg]
  exact if_pos ⟨h, rfl⟩
theorem parse_text {s : List UInt8} {l : List Ace} (h : parseL s = some l) : mayL l = true ∧ textL l = s := by
  unfold parseL at h
  split at h
  · cases h
  · split at h
    · rename_i hh
      cases h
      exact hh
    · cases h
end Go.Proofs.YtejgnnhmeolphaaDoor
