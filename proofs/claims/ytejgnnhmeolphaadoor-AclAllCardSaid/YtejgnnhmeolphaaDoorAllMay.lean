/- Plain laws of access lists; acl.Same. Conditions: those of each theorem. -/
import Derived.Test.YtejgnnhmeolphaaDoorAclLaw
import Derived.Test.YtejgnnhmeolphaaDoorAclMay
set_option linter.unusedVariables false
set_option linter.unusedSimpArgs false
namespace Go.Proofs.YtejgnnhmeolphaaDoor
open Go.RowKit Go.Proofs.YtejgnnhmeolphaaDoorW.PrintWords Go.Proofs.YtejgnnhmeolphaaDoor.PAclR

/- Numbers as text. -/
theorem dec_digit (u : Nat) : ∀ x ∈ Lib.decDigits u, 48 ≤ x.toNat ∧ x.toNat ≤ 57 := by
  induction u using Nat.strongRecOn with
  | ind u ih =>
    intro x hx
    rw [Lib.decDigits] at hx
    split at hx
    · rename_i h
      rw [List.mem_singleton] at hx
      subst hx
      simp; omega
    · rename_i h
      rcases List.mem_append.1 hx with hx | hx
      · exact ih (u / 10) (by omega) x hx
      · rw [List.mem_singleton] at hx
        subst hx
        simp; omega
theorem parse_snoc (c : UInt8) : ∀ (l : List UInt8) (acc : Nat), Lib.parseUint10 acc (l ++ [c]) = match Lib.parseUint10 acc l with | .ok v => Lib.parseUint10 v [c] | e => e
  | [], acc => rfl
  | b :: l, acc => by
    simp only [List.cons_append, Lib.parseUint10]
    split
    · split
      · rfl
      · split
        · rfl
        · exact parse_snoc c l _
    · rfl
theorem parse_dec (u : Nat) (hu : u < 1000000000000000000) : Lib.parseUint10 0 (Lib.decDigits u) = .ok u := by
  induction u using Nat.strongRecOn with
  | ind u ih =>
    rw [Lib.decDigits]
    split
    · rename_i h
      simp only [Lib.parseUint10]
      rw [if_pos (by simp; omega), if_neg (by omega), if_neg (by simp; omega)]
      simp; omega
    · rename_i h
      rw [parse_snoc, ih (u / 10) (by omega) (by omega)]
      simp only [Lib.parseUint10]
      rw [if_pos (by simp; omega), if_neg (by omega), if_neg (by simp; omega)]
      simp; omega
theorem dec_ne (u : Nat) : Lib.decDigits u ≠ [] := by
  rw [Lib.decDigits]
  split <;> simp
theorem itoa_dec {n : Int} (h : 0 ≤ n) : Lib.itoa n = Lib.decDigits n.toNat := by unfold Lib.itoa; rw [if_neg (by omega)]
theorem atoi_itoa (n : Int) (h0 : 0 ≤ n) (h1 : n < 1000000000000000000) : Lib.atoiAll (Lib.itoa n) = .ok n := by
  rw [itoa_dec h0]
  have hp := parse_dec n.toNat (by omega)
  have hd := dec_digit n.toNat
  have hn := dec_ne n.toNat
  generalize Lib.decDigits n.toNat = l at hp hd hn ⊢
  cases l with
  | nil => exact absurd rfl hn
  | cons c r =>
    have hc := hd c (by simp)
    have hne : ¬ (c.toNat = 43 ∨ c.toNat = 45) := by omega
    have hne2 : ¬ c.toNat = 45 := by omega
    simp only [Lib.atoiAll]
    rw [if_neg hne]
    unfold Lib.parseMag
    rw [if_neg (by simp), hp]
    simp only
    rw [if_neg (by omega), if_neg (by omega), if_neg hne2]
    congr 1
    omega

/- A text cut at each of a byte. -/
theorem splitOn_miss (c : UInt8) : ∀ l : List UInt8, c ∉ l → splitOn c l = [l]
  | [], _ => rfl
  | b :: l, h => by
    have hb : b ≠ c := fun e => h (e ▸ List.mem_cons_self)
    have hl : c ∉ l := fun e => h (List.mem_cons_of_mem _ e)
    simp only [splitOn]
    rw [if_neg hb, splitOn_miss c l hl]
theorem splitOn_cut (c : UInt8) : ∀ a r : List UInt8, c ∉ a → splitOn c (a ++ c :: r) = a :: splitOn c r
  | [], r, _ => by simp [splitOn]
  | b :: a, r, h => by
    have hb : b ≠ c := fun e => h (e ▸ List.mem_cons_self)
    have ha : c ∉ a := fun e => h (List.mem_cons_of_mem _ e)
    simp only [List.cons_append, splitOn]
    rw [if_neg hb, splitOn_cut c a r ha]
theorem join_cons (c : UInt8) (x y : List UInt8) (r : List (List UInt8)) : Lib.join (x :: y :: r) [c] = x ++ c :: Lib.join (y :: r) [c] := by
  simp [Lib.join, List.intercalate, List.intersperse]
theorem split_join (c : UInt8) : ∀ xs : List (List UInt8), xs ≠ [] → (∀ x ∈ xs, c ∉ x) → splitOn c (Lib.join xs [c]) = xs
  | [], h, _ => absurd rfl h
  | [x], _, h => by rw [Lib.join_one]; exact splitOn_miss c x (h x (by simp))
  | x :: y :: r, _, h => by
    rw [join_cons, splitOn_cut c x _ (h x (by simp)), split_join c (y :: r) (by simp) (fun z hz => h z (List.mem_cons_of_mem _ hz))]

/- A part's text. -/
theorem rwx_back8 : ∀ p : Fin 8, rightsOf (if Go.bits .and .i64 (p.val : Int) 4 = 0 then 45 else 114) (if Go.bits .and .i64 ((p.val : Int) * 2) 4 = 0 then 45 else 119) (if Go.bits .and .i64 ((p.val : Int) * 4) 4 = 0 then 45 else 120) = p.val := by decide +kernel
theorem rwx_back (p : Int) (h0 : 0 ≤ p) (h1 : p ≤ 7) : ∃ x y z, rwxP p = [x, y, z] ∧ rightsOf x y z = p ∧ (∀ b ∈ [x, y, z], b ≠ 58 ∧ b ≠ 44) := by
  refine ⟨_, _, _, rfl, ?_, ?_⟩
  · have h := rwx_back8 ⟨p.toNat, by omega⟩
    have e : ((p.toNat : Nat) : Int) = p := Int.toNat_of_nonneg h0
    simp only [e] at h
    exact h
  · intro b hb
    simp only [List.mem_cons, List.not_mem_nil, or_false] at hb
    rcases hb with rfl | rfl | rfl <;> split <;> decide
theorem head_back (t : Int) (h0 : 1 ≤ t) (h1 : t ≤ 6) : headIdx (headOf t) = (if namedB t then t - 1 else t) ∧ (∀ b ∈ headOf t, b ≠ 58 ∧ b ≠ 44) := by
  have : t = 1 ∨ t = 2 ∨ t = 3 ∨ t = 4 ∨ t = 5 ∨ t = 6 := by omega
  rcases this with rfl | rfl | rfl | rfl | rfl | rfl <;> exact ⟨by decide +kernel, by decide⟩
/-- The Id's text. -/
def idText (a : Ace) : List UInt8 := if namedB a.f0 then Lib.itoa a.f1 else []
theorem id_bytes (a : Ace) (h : 0 ≤ a.f1) : ∀ b ∈ idText a, b ≠ 58 ∧ b ≠ 44 := by
  intro b hb
  unfold idText at hb
  split at hb
  · rw [itoa_dec h] at hb
    have := dec_digit _ b hb
    constructor <;> (rintro rfl; simp at this)
  · simp at hb
/-- What a part that may be is. -/
def GoodAce (a : Ace) : Prop := 1 ≤ a.f0 ∧ a.f0 ≤ 6 ∧ mayAceB a = true
theorem good_nums {a : Ace} (h : GoodAce a) : 0 ≤ a.f1 ∧ a.f1 ≤ 2147483647 ∧ 0 ≤ a.f2 ∧ a.f2 ≤ 7 ∧ (namedB a.f0 = false → a.f1 = 0) := by
  have h3 := h.2.2
  simp only [mayAceB, Bool.and_eq_true, decide_eq_true_eq, Bool.or_eq_true, beq_iff_eq] at h3
  refine ⟨h3.1.1.2, h3.1.2, h3.1.1.1.1, h3.1.1.1.2, fun hn => ?_⟩
  rcases h3.2 with h | h
  · exact h
  · rw [hn] at h; cases h
theorem aceText_split (a : Ace) (h : GoodAce a) : splitOn 58 (aceText a) = [headOf a.f0, idText a, rwxP a.f2] := by
  obtain ⟨g0, g1, g2, g3, _⟩ := good_nums h
  obtain ⟨x, y, z, e, _, hb⟩ := rwx_back a.f2 g2 g3
  have hh := (head_back a.f0 h.1 h.2.1).2
  have hi := id_bytes a g0
  have e1 : aceText a = headOf a.f0 ++ 58 :: (idText a ++ 58 :: rwxP a.f2) := by unfold aceText idText; simp
  rw [e1, splitOn_cut 58 _ _ (fun hm => (hh _ hm).1 rfl), splitOn_cut 58 _ _ (fun hm => (hi _ hm).1 rfl), splitOn_miss 58 _ (by rw [e]; exact fun hm => (hb _ hm).1 rfl)]
theorem aceText_comma (a : Ace) (h : GoodAce a) : (44 : UInt8) ∉ aceText a := by
  obtain ⟨g0, g1, g2, g3, _⟩ := good_nums h
  obtain ⟨x, y, z, e, _, hb⟩ := rwx_back a.f2 g2 g3
  have hh := (head_back a.f0 h.1 h.2.1).2
  have hi := id_bytes a g0
  have e1 : aceText a = headOf a.f0 ++ 58 :: (idText a ++ 58 :: rwxP a.f2) := by unfold aceText idText; simp
  rw [e1]
  intro hm
  rcases List.mem_append.1 hm with hm | hm
  · exact (hh _ hm).2 rfl
  rcases List.mem_cons.1 hm with hm | hm
  · exact absurd hm (by decide)
  rcases List.mem_append.1 hm with hm | hm
  · exact (hi _ hm).2 rfl
  rcases List.mem_cons.1 hm with hm | hm
  · exact absurd hm (by decide)
  · rw [e] at hm; exact (hb _ hm).2 rfl
theorem part_back (a : Ace) (h : GoodAce a) : partL (aceText a) = some a := by
  obtain ⟨g0, g1, g2, g3, g4⟩ := good_nums h
  obtain ⟨x, y, z, e, hr, _⟩ := rwx_back a.f2 g2 g3
  have hh := (head_back a.f0 h.1 h.2.1).1
  unfold partL
  rw [aceText_split a h, e]
  simp only
  rw [hh, hr]
  cases hn : namedB a.f0 with
  | true =>
    have ht : a.f0 = 2 ∨ a.f0 = 4 := by simpa [namedB] using hn
    have hi : idText a = Lib.itoa a.f1 := by unfold idText; rw [if_pos hn]
    have hne : ¬ Lib.itoa a.f1 = [] := by rw [itoa_dec g0]; exact dec_ne _
    rw [hi, if_pos rfl, if_neg (by omega), if_neg hne, atoi_itoa a.f1 g0 (by omega)]
    simp
  | false =>
    have hi : idText a = [] := by unfold idText; rw [hn]; rfl
    have h1 := h.1
    rw [hi]
    simp only [Bool.false_eq_true, if_false, if_true]
    rw [if_neg (by omega)]
    have := g4 hn
    cases a
    simp_all
theorem map_back : ∀ l : List Ace, (∀ a ∈ l, GoodAce a) → (l.map aceText).mapM partL = some l
  | [], _ => rfl
  | a :: l, h => by
    rw [List.map_cons, List.mapM_cons, part_back a (h a (by simp)), map_back l (fun b hb => h b (by simp [hb]))]
    rfl
/-- A list's text. -/
def textL (l : List Ace) : List UInt8 := Lib.join (l.map aceText) [44]
theorem may_good {l : List Ace} (h : mayL l = true) : l ≠ [] ∧ ∀ a ∈ l, GoodAce a := by
  refine ⟨fun e => ?_, fun a ha => ?_⟩
  · rw [e] at h; exact absurd h (by decide)
  · unfold mayL at h
    split at h
    · cases h
    · rename_i x m hs
      exact scan_good l _ _ _ hs a ha
/-- A list that may be is told again by its text. -/
theorem parse_back {l : List Ace} (h : mayL l = true) : parseL (textL l) = some l := by
  obtain ⟨hne, hg⟩ := may_good h
  have hs : splitOn 44 (textL l) = l.map aceText := split_join 44 _ (by simpa using hne) (fun x hx => by
    obtain ⟨a, ha, rfl⟩ := List.mem_map.1 hx
    exact aceText_comma a (hg a ha))
  unfold parseL
  rw [hs, map_back l hg]
  exact if_pos ⟨h, rfl⟩
theorem parse_text {s : List UInt8} {l : List Ace} (h : parseL s = some l) : mayL l = true ∧ textL l = s := by
  unfold parseL at h
  split at h
  · cases h
  · split at h
    · rename_i hh
      cases h
      exact hh
    · cases h
end Go.Proofs.YtejgnnhmeolphaaDoor
namespace Go.Proofs.YtejgnnhmeolphaaDoor
open Go.RowKit Go.Proofs.YtejgnnhmeolphaaDoorW.PrintWords Go.Proofs.YtejgnnhmeolphaaDoor.PAclR

def cntT (l : List Ace) (t : Int) : Nat := l.countP (fun a => a.f0 == t)
def chain : Ace → List Ace → Prop
  | _, [] => True
  | p, a :: r => badB p a = false ∧ chain a r
theorem scan_chain : ∀ (l : List Ace) (last : Ace) (m : List Int), (scan l last m).isSome = true ↔ chain last l
  | [], last, m => by simp [scan, chain]
  | a :: r, last, m => by
    simp only [scan, chain]
    split
    · rename_i h; simp [h]
    · rename_i h
      rw [scan_chain r a _]
      simp [h]
theorem scan_count : ∀ (l : List Ace) (last : Ace) (m : List Int) (x : Ace × List Int), scan l last m = some x → m.length = 7 → ∀ t : Int, 0 ≤ t → t ≤ 6 → x.2.getD t.toNat 0 = m.getD t.toNat 0 + cntT l t
  | [], last, m, x, h, _, t, _, _ => by
    simp only [scan, Option.some.injEq] at h
    rw [← h]; simp [cntT]
  | a :: r, last, m, x, h, hm, t, h0, h6 => by
    simp only [scan] at h
    split at h
    · cases h
    · rename_i hb
      have hg := good_of hb
      have ih := scan_count r a _ x h (by rw [List.length_set]; exact hm) t h0 h6
      rw [ih]
      simp only [cntT, List.countP_cons]
      by_cases e : a.f0 = t
      · subst e
        have : a.f0.toNat < m.length := by omega
        rw [List.getD_eq_getElem?_getD, List.getElem?_set_self this]
        simp; omega
      · have hne : a.f0.toNat ≠ t.toNat := by omega
        have hf : (a.f0 == t) = false := by simpa using e
        rw [List.getD_eq_getElem?_getD, List.getElem?_set_ne hne, hf]
        simp
/-- Which lists may be. -/
def mayP (l : List Ace) : Prop := chain ace0 l ∧ cntT l 1 = 1 ∧ cntT l 3 = 1 ∧ cntT l 6 = 1 ∧ (cntT l 5 = if cntT l 2 + cntT l 4 < 1 then 0 else 1) ∧ l.length ≤ 32
theorem may_iff (l : List Ace) : mayL l = true ↔ mayP l := by
  have hc := scan_chain l ace0 zeros7
  unfold mayL mayP
  cases hs : scan l ace0 zeros7 with
  | none =>
    rw [hs] at hc
    simp only [Option.isSome_none, Bool.false_eq_true, false_iff] at hc
    simp [hc]
  | some x =>
    rw [hs] at hc
    have hch := hc.1 rfl
    have k := fun t => scan_count l ace0 zeros7 x hs rfl t
    have k1 := k 1 (by omega) (by omega)
    have k2 := k 2 (by omega) (by omega)
    have k3 := k 3 (by omega) (by omega)
    have k4 := k 4 (by omega) (by omega)
    have k5 := k 5 (by omega) (by omega)
    have k6 := k 6 (by omega) (by omega)
    obtain ⟨a, m⟩ := x
    simp only [show (1 : Int).toNat = 1 from rfl, show (2 : Int).toNat = 2 from rfl, show (3 : Int).toNat = 3 from rfl, show (4 : Int).toNat = 4 from rfl, show (5 : Int).toNat = 5 from rfl, show (6 : Int).toNat = 6 from rfl, zeros7, List.getD_cons_succ, List.getD_cons_zero, Int.zero_add] at k1 k2 k3 k4 k5 k6
    simp only [k1, k2, k3, k4, k5, k6, Bool.and_eq_true, beq_iff_eq, decide_eq_true_eq, hch, true_and]
    constructor
    · rintro ⟨⟨⟨⟨h1, h3⟩, h6⟩, h5⟩, hl⟩
      refine ⟨by omega, by omega, by omega, ?_, by omega⟩
      split at h5 <;> split <;> omega
    · rintro ⟨h1, h3, h6, h5, hl⟩
      refine ⟨⟨⟨⟨by omega, by omega⟩, by omega⟩, ?_⟩, by omega⟩
      split at h5 <;> split <;> omega
/-- Without one of its parts that must be a list may not be. -/
theorem may_less {l r : List Ace} {a : Ace} (h : mayL (l ++ a :: r) = true) (h2 : a.f0 ≠ 2) (h4 : a.f0 ≠ 4) : mayL (l ++ r) = false := by
  cases hb : mayL (l ++ r) with
  | false => rfl
  | true =>
    have hg := (may_good h).2 a (by simp)
    have p1 := (may_iff _).1 h
    have p2 := (may_iff _).1 hb
    obtain ⟨_, a1, a3, a6, a5, _⟩ := p1
    obtain ⟨_, b1, b3, b6, b5, _⟩ := p2
    simp only [cntT, List.countP_append, List.countP_cons] at a1 a3 a6 a5 b1 b3 b6 b5
    have ht : a.f0 = 1 ∨ a.f0 = 3 ∨ a.f0 = 5 ∨ a.f0 = 6 := by have := hg.1; have := hg.2.1; omega
    rcases ht with e | e | e | e
    · simp only [e, beq_self_eq_true, if_true] at a1; omega
    · simp only [e, beq_self_eq_true, if_true] at a3; omega
    · simp only [e, show ((5 : Int) == 2) = false from rfl, show ((5 : Int) == 4) = false from rfl, beq_self_eq_true, if_true, Bool.false_eq_true, if_false, Nat.add_zero] at a5
      split at a5 <;> split at b5 <;> omega
    · simp only [e, beq_self_eq_true, if_true] at a6; omega

theorem bad_not {p a : Ace} (hg : GoodAce a) (h : p.f0 < a.f0 ∨ (p.f0 = a.f0 ∧ p.f1 < a.f1)) : badB p a = false := by
  obtain ⟨g1, g2, g3⟩ := hg
  unfold badB
  rw [g3]
  have e1 : decide (a.f0 < 1) = false := decide_eq_false (by omega)
  have e2 : decide (6 < a.f0) = false := decide_eq_false (by omega)
  have e3 : decide (a.f0 < p.f0) = false := decide_eq_false (by omega)
  rw [e1, e2, e3]
  simp only [Bool.not_true, Bool.or_false, Bool.false_or, Bool.and_eq_false_iff, beq_eq_false_iff_ne, decide_eq_false_iff_not]
  rcases h with h | ⟨h1, h2⟩
  · exact .inl (by omega)
  · exact .inr (by omega)
theorem cnt_append (l r : List Ace) (t : Int) : cntT (l ++ r) t = cntT l t + cntT r t := List.countP_append
theorem cnt_cons (a : Ace) (r : List Ace) (t : Int) : cntT (a :: r) t = cntT r t + if a.f0 = t then 1 else 0 := by
  unfold cntT
  rw [List.countP_cons]
  by_cases h : a.f0 = t <;> simp [h]
theorem cnt_nil (t : Int) : cntT [] t = 0 := rfl
theorem perm_cons (a : Ace) (r : List Ace) (t : Int) : permL (a :: r) t = if a.f0 = t then a.f2 else permL r t := by
  unfold permL
  rw [List.find?_cons]
  by_cases h : a.f0 = t
  · simp [h]
  · have : (a.f0 == t) = false := by simpa using h
    rw [this, if_neg h]
theorem perm_nil (s : Int) : permL [] s = -1 := rfl
end Go.Proofs.YtejgnnhmeolphaaDoor
namespace Go.Proofs.YtejgnnhmeolphaaDoor
open Go.RowKit Go.Proofs.YtejgnnhmeolphaaDoorW.PrintWords Go.Proofs.YtejgnnhmeolphaaDoor.PAclR

def aceEq (a b : Ace) : Bool := (a.f0 == b.f0) && (a.f1 == b.f1) && (a.f2 == b.f2)
theorem aceEq_iff (a b : Ace) : aceEq a b = true ↔ a = b := by
  cases a; cases b
  simp [aceEq, and_assoc]
def sameL : List Ace → List Ace → Bool
  | [], [] => true
  | a :: l, b :: m => aceEq a b && sameL l m
  | _, _ => false
theorem sameL_iff : ∀ l m : List Ace, sameL l m = true ↔ l = m
  | [], [] => by simp [sameL]
  | [], b :: m => by simp [sameL]
  | a :: l, [] => by simp [sameL]
  | a :: l, b :: m => by simp [sameL, aceEq_iff, sameL_iff l m]
theorem sameL_len {l m : List Ace} (h : l.length ≠ m.length) : sameL l m = false := by
  cases hs : sameL l m with
  | false => rfl
  | true => exact absurd (congrArg List.length ((sameL_iff l m).1 hs)) h
theorem sameL_at {l m : List Ace} {i : Nat} {a b : Ace} {r s : List Ace} (h1 : l.drop i = a :: r) (h2 : m.drop i = b :: s) (h : aceEq a b = false) : sameL l m = false := by
  cases hs : sameL l m with
  | false => rfl
  | true =>
    obtain rfl := (sameL_iff l m).1 hs
    rw [h1] at h2
    obtain ⟨rfl, _⟩ := List.cons.inj h2
    rw [(aceEq_iff a a).2 rfl] at h
    cases h
theorem sameL_take {l m : List Ace} (hl : l.length = m.length) (h : l.take l.length = m.take l.length) : sameL l m = true := by
  rw [sameL_iff]
  rw [List.take_length, hl, List.take_length] at h
  exact h

theorem take_next {l m : List Ace} {i : Nat} {a : Ace} {r s : List Ace} (h : l.take i = m.take i) (h1 : l.drop i = a :: r) (h2 : m.drop i = a :: s) : l.take (i + 1) = m.take (i + 1) := by
  have e1 : l[i]? = some a := by have := congrArg (fun q => q[0]?) h1; simpa using this
  have e2 : m[i]? = some a := by have := congrArg (fun q => q[0]?) h2; simpa using this
  rw [List.take_add_one, List.take_add_one, h, e1, e2]
set_option maxHeartbeats 2000000 in
set_option maxRecDepth 100000 in
theorem equal_any (A B : Option Addr) (c d : Nat) (l m : List Ace) (w : World) (h1 : Kd.C k27 w A l.length l) (h2 : Kd.C k27 w B m.length m) (hc : l.length ≤ c) (hd : m.length ≤ d) (hl : l.length ≤ 1000000) (hm : m.length ≤ 140737488355328) :
    Calls Tryd.prog 35 #[.slice A l.length c, .slice B m.length d] w fun e w' => e = .returned (.bool (sameL l m)) ∧ Below w.heap.size w w' := by
  have H1 := Aside0.mk h1
  have H2 := Aside0.mk h2
  clear h1 h2
  by_cases hlen : l.length = m.length
  · go_enter Tryd.func35, Tryd.ntmps35
    go_wp2_with fail
    have HLN := Aside0.mk hlen
    go_loopw [13] (fun v wr => ∃ i : Nat, i ≤ l.length ∧ v = .int .i64 i ∧ Aside0 (l.take i = m.take i) ∧ Aside0 (Below w.heap.size w wr)) (fun v _ => l.length - (intOf v).toNat)
    case atStart => exact ⟨0, Nat.zero_le _, rfl, ⟨rfl⟩, ⟨Below.refl _ _⟩⟩
    case round =>
      obtain ⟨i, hi, rfl, HT, HB⟩ := hrel
      have hlm : i ≤ m.length := by omega
      by_cases hlt : i < l.length
      · have hltm : i < m.length := by omega
        have hlt' : ((i : Nat) : Int) < ((l.length : Nat) : Int) := by omega
        have hltm' : ((i : Nat) : Int) < ((m.length : Nat) : Int) := by omega
        obtain ⟨ad, rfl, p0, p1, p2⟩ := at_T27 (Kd.C_below H1.out HB.out) (i : Int) (by omega) (by omega)
        obtain ⟨bd, rfl, q0, q1, q2⟩ := at_T27 (Kd.C_below H2.out HB.out) (i : Int) (by omega) (by omega)
        obtain ⟨⟨t, id, pm⟩, ha⟩ : ∃ a, rd_T27 l (i : Int) = a := ⟨_, rfl⟩
        obtain ⟨⟨t', id', pm'⟩, hb⟩ : ∃ a, rd_T27 m (i : Int) = a := ⟨_, rfl⟩
        rw [ha, Int.toNat_natCast] at p0 p1 p2
        rw [hb, Int.toNat_natCast] at q0 q1 q2
        simp only at p0 p1 p2 q0 q1 q2
        have HD := Aside0.mk (drop_at ⟨ha⟩ hlt)
        have HE := Aside0.mk (drop_at ⟨hb⟩ hltm)
        clear ha hb
        by_cases h1 : t = t'
        · subst h1
          by_cases h2 : id = id'
          · subst h2
            by_cases h3 : pm = pm'
            · subst h3
              go_wp2_with fail
              go_quiet (fail)
              go_wp2_with fail
              exact ⟨⟨i + 1, by omega, by go_num, ⟨take_next HT.out HD.out HE.out⟩, ⟨below_drewN HB.out _⟩⟩, by simp [intOf]; omega⟩
            · have HS := Aside0.mk (sameL_at HD.out HE.out (by simp [aceEq, h3]))
              go_wp2_with fail
              go_quiet (fail)
              go_wp2_with fail
              go_ret
              exact ⟨by rw [HS.out]; rfl, below_drewN HB.out _⟩
          · have HS := Aside0.mk (sameL_at HD.out HE.out (by simp [aceEq, h2]))
            go_wp2_with fail
            go_quiet (fail)
            go_wp2_with fail
            go_ret
            exact ⟨by rw [HS.out]; rfl, below_drewN HB.out _⟩
        · have HS := Aside0.mk (sameL_at HD.out HE.out (by simp [aceEq, h1]))
          go_wp2_with fail
          go_quiet (fail)
          go_wp2_with fail
          go_ret
          exact ⟨by rw [HS.out]; rfl, below_drewN HB.out _⟩
      · obtain rfl : i = l.length := by omega
        have HS := Aside0.mk (sameL_take hlen HT.out)
        go_wp2_with fail
        go_ret
        exact ⟨by rw [HS.out]; rfl, HB.out⟩
  · have hne : ¬ ((l.length : Nat) : Int) = ((m.length : Nat) : Int) := by omega
    have HS := Aside0.mk (sameL_len hlen)
    go_enter Tryd.func35, Tryd.ntmps35
    go_wp2_with fail
    go_ret
    exact ⟨by rw [HS.out]; rfl, Below.refl _ _⟩
set_option maxHeartbeats 2000000 in
theorem same_any (A B : Option Addr) (c d : Nat) (l m : List Ace) (w : World) (h1 : Kd.C k27 w A l.length l) (h2 : Kd.C k27 w B m.length m) (hc : l.length ≤ c) (hd : m.length ≤ d) (hl : l.length ≤ 1000000) (hm : m.length ≤ 140737488355328) :
    Calls Tryd.prog 18 #[.slice A l.length c, .slice B m.length d] w fun e w' => e = .returned (.bool (sameL l m)) ∧ Below w.heap.size w w' := by
  have HE := Aside0.mk (equal_any A B c d l m w h1 h2 hc hd hl hm)
  clear h1 h2
  go_enter Tryd.func18, Tryd.ntmps18
  go_wp2_with fail
  refine HE.out.mono ?_
  rintro e w1 ⟨rfl, hb⟩
  go_wp2_with fail
  go_ret
  exact ⟨rfl, hb⟩
end Go.Proofs.YtejgnnhmeolphaaDoor
