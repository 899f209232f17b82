/- Which lists may be, by chains and counts; a list by numbers may be, and has its mode. -/
import Derived.Test.YtejgnnhmeolphaaDoorAclPlain
import Derived.Test.YtejgnnhmeolphaaDoorAclRefuses
set_option linter.unusedVariables false
set_option linter.unusedSimpArgs false
namespace Go.Proofs.YtejgnnhmeolphaaDoor
open Go.RowKit Go.Proofs.YtejgnnhmeolphaaDoorW.PrintWords Go.Proofs.YtejgnnhmeolphaaDoor.PAclR

def cntT (l : List Ace) (t : Int) : Nat := l.countP (fun a => a.f0 == t)
def chain : Ace → List Ace → Prop
  | _, [] => True
  | p, a :: r => badB p a = false ∧ chain a r
theorem scan_chain : ∀ (l : List Ace) (last : Ace) (m : List Int), (scan l last m).isSome = true ↔ chain last l
  | [], last, m => by simp [scan, chain]
  | a :: r, last, m => by
    simp only [scan, chain]
    split
    · rename_i h; simp [h]
    · rename_i h
      rw [scan_chain r a _]
      simp [h]
theorem scan_count : ∀ (l : List Ace) (last : Ace) (m : List Int) (x : Ace × List Int), scan l last m = some x → m.length = 7 → ∀ t : Int, 0 ≤ t → t ≤ 6 → x.2.getD t.toNat 0 = m.getD t.toNat 0 + cntT l t
  | [], last, m, x, h, _, t, _, _ => by
    simp only [scan, Option.some.injEq] at h
    rw [← h]; simp [cntT]
  | a :: r, last, m, x, h, hm, t, h0, h6 => by
    simp only [scan] at h
    split at h
    · cases h
    · rename_i hb
      have hg := good_of hb
      have ih := scan_count r a _ x h (by rw [List.length_set]; exact hm) t h0 h6
      rw [ih]
      simp only [cntT, List.countP_cons]
      by_cases e : a.f0 = t
      · subst e
        have : a.f0.toNat < m.length := by omega
        rw [List.getD_eq_getElem?_getD, List.getElem?_set_self this]
        simp; omega
      · have hne : a.f0.toNat ≠ t.toNat := by omega
        have hf : (a.f0 == t) = false := by simpa using e
        rw [List.getD_eq_getElem?_getD, List.getElem?_set_ne hne, hf]
        simp
/-- Which lists may be. -/
def mayP (l : List Ace) : Prop := chain ace0 l ∧ cntT l 1 = 1 ∧ cntT l 3 = 1 ∧ cntT l 6 = 1 ∧ (cntT l 5 = if cntT l 2 + cntT l 4 < 1 then 0 else 1) ∧ l.length ≤ 32
theorem may_iff (l : List Ace) : mayL l = true ↔ mayP l := by
  have hc := scan_chain l ace0 zeros7
  unfold mayL mayP
  cases hs : scan l ace0 zeros7 with
  | none =>
    rw [hs] at hc
    simp only [Option.isSome_none, Bool.false_eq_true, false_iff] at hc
    simp [hc]
  | some x =>
    rw [hs] at hc
    have hch := hc.1 rfl
    have k := fun t => scan_count l ace0 zeros7 x hs rfl t
    have k1 := k 1 (by omega) (by omega)
    have k2 := k 2 (by omega) (by omega)
    have k3 := k 3 (by omega) (by omega)
    have k4 := k 4 (by omega) (by omega)
    have k5 := k 5 (by omega) (by omega)
    have k6 := k 6 (by omega) (by omega)
    obtain ⟨a, m⟩ := x
    simp only [show (1 : Int).toNat = 1 from rfl, show (2 : Int).toNat = 2 from rfl, show (3 : Int).toNat = 3 from rfl, show (4 : Int).toNat = 4 from rfl, show (5 : Int).toNat = 5 from rfl, show (6 : Int).toNat = 6 from rfl, zeros7, List.getD_cons_succ, List.getD_cons_zero, Int.zero_add] at k1 k2 k3 k4 k5 k6
    simp only [k1, k2, k3, k4, k5, k6, Bool.and_eq_true, beq_iff_eq, decide_eq_true_eq, hch, true_and]
    constructor
    · rintro ⟨⟨⟨⟨h1, h3⟩, h6⟩, h5⟩, hl⟩
      refine ⟨by omega, by omega, by omega, ?_, by omega⟩
      split at h5 <;> split <;> omega
    · rintro ⟨h1, h3, h6, h5, hl⟩
      refine ⟨⟨⟨⟨by omega, by omega⟩, by omega⟩, ?_⟩, by omega⟩
      split at h5 <;> split <;> omega
/-- Without one of its parts that must be a list may not be. -/
theorem may_less {l r : List Ace} {a : Ace} (h : mayL (l ++ a :: r) = true) (h2 : a.f0 ≠ 2) (h4 : a.f0 ≠ 4) : mayL (l ++ r) = false := by
  cases hb : mayL (l ++ r) with
  | false => rfl
  | true =>
    have hg := (may_good h).2 a (by simp)
    have p1 := (may_iff _).1 h
    have p2 := (may_iff _).1 hb
    obtain ⟨_, a1, a3, a6, a5, _⟩ := p1
    obtain ⟨_, b1, b3, b6, b5, _⟩ := p2
    simp only [cntT, List.countP_append, List.countP_cons] at a1 a3 a6 a5 b1 b3 b6 b5
    have ht : a.f0 = 1 ∨ a.f0 = 3 ∨ a.f0 = 5 ∨ a.f0 = 6 := by have := hg.1; have := hg.2.1; omega
    rcases ht with e | e | e | e
    · simp only [e, beq_self_eq_true, if_true] at a1; omega
    · simp only [e, beq_self_eq_true, if_true] at a3; omega
    · simp only [e, show ((5 : Int) == 2) = false from rfl, show ((5 : Int) == 4) = false from rfl, beq_self_eq_true, if_true, Bool.false_eq_true, if_false, Nat.add_zero] at a5
      split at a5 <;> split at b5 <;> omega
    · simp only [e, beq_self_eq_true, if_true] at a6; omega

/- A list by numbers. -/
theorem addL_nil (a : Ace) : addL [] a = [a] := rfl
theorem addL_cons (x a : Ace) (r : List Ace) : addL (x :: r) a = if x.f1 < a.f1 then x :: addL r a else if x.f1 = a.f1 then a :: r else a :: x :: r := by
  unfold addL
  simp only [aheadL]
  split
  · simp
  · simp only [List.take_zero, List.nil_append, List.drop_zero, restL]
    split <;> simp
/-- Parts of one tag, their Ids rising. -/
def Run (t : Int) (l : List Ace) : Prop := (∀ x ∈ l, x.f0 = t ∧ GoodAce x) ∧ l.Pairwise (fun x y => x.f1 < y.f1)
theorem run_nil (t : Int) : Run t [] := ⟨by simp, List.Pairwise.nil⟩
theorem run_add {t : Int} : ∀ {l : List Ace} {a : Ace}, Run t l → a.f0 = t → GoodAce a → Run t (addL l a)
  | [], a, _, ht, hg => ⟨by simp [addL_nil, ht, hg], by simp [addL_nil]⟩
  | x :: r, a, h, ht, hg => by
    obtain ⟨h1, h2⟩ := h
    rw [List.pairwise_cons] at h2
    have ih : Run t (addL r a) := run_add ⟨fun y hy => h1 y (by simp [hy]), h2.2⟩ ht hg
    rw [addL_cons]
    split
    · rename_i hlt
      refine ⟨fun y hy => ?_, List.pairwise_cons.2 ⟨fun y hy => ?_, ih.2⟩⟩
      · rcases List.mem_cons.1 hy with rfl | hy
        · exact h1 y (by simp)
        · exact ih.1 y hy
      · rcases addL_mem r a y hy with hy | rfl
        · exact h2.1 y hy
        · exact hlt
    · split
      · rename_i _ he
        refine ⟨fun y hy => ?_, List.pairwise_cons.2 ⟨fun y hy => ?_, h2.2⟩⟩
        · rcases List.mem_cons.1 hy with rfl | hy
          · exact ⟨ht, hg⟩
          · exact h1 y (by simp [hy])
        · have := h2.1 y hy; omega
      · rename_i hn he
        refine ⟨fun y hy => ?_, List.pairwise_cons.2 ⟨fun y hy => ?_, List.pairwise_cons.2 h2⟩⟩
        · rcases List.mem_cons.1 hy with rfl | hy
          · exact ⟨ht, hg⟩
          · exact h1 y hy
        · rcases List.mem_cons.1 hy with rfl | hy
          · omega
          · have := h2.1 y hy; omega
theorem makeUG_run (ns : List Int) (hb : ∀ x ∈ ns, 0 ≤ x ∧ x ≤ 255) : ∀ j, Run 2 (makeUG ns j).1 ∧ Run 4 (makeUG ns j).2
  | 0 => ⟨run_nil 2, run_nil 4⟩
  | j + 1 => by
    obtain ⟨h1, h2⟩ := makeUG_run ns hb j
    have hx : ∀ i, 0 ≤ ns.getD i 0 ∧ ns.getD i 0 ≤ 255 := fun i => by
      rw [List.getD_eq_getElem?_getD]
      rcases Nat.lt_or_ge i ns.length with h | h
      · rw [List.getElem?_eq_getElem h]; exact hb _ (List.getElem_mem _)
      · rw [List.getElem?_eq_none h]; decide
    have hx1 := hx (2 * j)
    have hx2 := hx (2 * j + 1)
    simp only [makeUG, makeStep]
    split
    · refine ⟨run_add h1 rfl ⟨by show (1 : Int) ≤ 2; decide, by show (2 : Int) ≤ 6; decide, ?_⟩, h2⟩
      simp only [mayAceB, namedB, beq_self_eq_true, Bool.true_or, Bool.or_true, Bool.and_true, Bool.and_eq_true, decide_eq_true_eq]
      omega
    · refine ⟨h1, run_add h2 rfl ⟨by show (1 : Int) ≤ 4; decide, by show (4 : Int) ≤ 6; decide, ?_⟩⟩
      simp only [mayAceB, namedB, beq_self_eq_true, Bool.true_or, Bool.or_true, Bool.and_true, Bool.and_eq_true, decide_eq_true_eq]
      omega
theorem bad_not {p a : Ace} (hg : GoodAce a) (h : p.f0 < a.f0 ∨ (p.f0 = a.f0 ∧ p.f1 < a.f1)) : badB p a = false := by
  obtain ⟨g1, g2, g3⟩ := hg
  unfold badB
  rw [g3]
  have e1 : decide (a.f0 < 1) = false := decide_eq_false (by omega)
  have e2 : decide (6 < a.f0) = false := decide_eq_false (by omega)
  have e3 : decide (a.f0 < p.f0) = false := decide_eq_false (by omega)
  rw [e1, e2, e3]
  simp only [Bool.not_true, Bool.or_false, Bool.false_or, Bool.and_eq_false_iff, beq_eq_false_iff_ne, decide_eq_false_iff_not]
  rcases h with h | ⟨h1, h2⟩
  · exact .inl (by omega)
  · exact .inr (by omega)
theorem chain_run {t : Int} (r : List Ace) : ∀ (U : List Ace) (p : Ace), (p.f0 < t ∨ (p.f0 = t ∧ ∀ x ∈ U, p.f1 < x.f1)) → Run t U → (∀ q : Ace, q.f0 ≤ t → chain q r) → chain p (U ++ r)
  | [], p, h, _, hr => hr p (by rcases h with h | ⟨h, _⟩ <;> omega)
  | a :: U, p, h, hU, hr => by
    obtain ⟨h1, h2⟩ := hU
    rw [List.pairwise_cons] at h2
    have ha := h1 a (by simp)
    refine ⟨bad_not ha.2 ?_, chain_run r U a (.inr ⟨ha.1, h2.1⟩) ⟨fun x hx => h1 x (by simp [hx]), h2.2⟩ hr⟩
    rcases h with h | ⟨h3, h4⟩
    · exact .inl (by rw [ha.1]; exact h)
    · exact .inr ⟨by rw [ha.1]; exact h3, h4 a (by simp)⟩
theorem cnt_run {t : Int} {U : List Ace} (h : Run t U) (s : Int) : cntT U s = if s = t then U.length else 0 := by
  unfold cntT
  split
  · rename_i e
    subst e
    rw [List.countP_eq_length]
    intro a ha
    simp [(h.1 a ha).1]
  · rename_i e
    rw [List.countP_eq_zero]
    intro a ha
    simp [(h.1 a ha).1]
    omega
theorem find_run {t : Int} {U : List Ace} (h : Run t U) {s : Int} (hs : s ≠ t) : U.find? (fun a => a.f0 == s) = none := by
  rw [List.find?_eq_none]
  intro a ha
  simp [(h.1 a ha).1]
  omega
theorem xor8 : ∀ a b : Fin 8, 0 ≤ Go.bits .xor .i64 (a.val : Int) (b.val : Int) ∧ Go.bits .xor .i64 (a.val : Int) (b.val : Int) ≤ 7 := by decide +kernel
theorem xor_int (a b : Int) (h0 : 0 ≤ a ∧ a ≤ 7) (h1 : 0 ≤ b ∧ b ≤ 7) : 0 ≤ Go.bits .xor .i64 a b ∧ Go.bits .xor .i64 a b ≤ 7 := by
  have h := xor8 ⟨a.toNat, by omega⟩ ⟨b.toNat, by omega⟩
  simp only [Int.toNat_of_nonneg h0.1, Int.toNat_of_nonneg h1.1] at h
  exact h
theorem mode512 : ∀ n : Fin 512, Go.bits .or .i64 (Go.bits .or .i64 ((n.val : Int) / 64 * 64) ((n.val : Int) / 8 % 8 * 8)) ((n.val : Int) % 8) = n.val := by decide +kernel
theorem mode_int (n : Int) (h0 : 0 ≤ n) (h1 : n < 512) : Go.bits .or .i64 (Go.bits .or .i64 (n / 64 * 64) (n / 8 % 8 * 8)) (n % 8) = n := by
  have h := mode512 ⟨n.toNat, by omega⟩
  simp only [Int.toNat_of_nonneg h0] at h
  exact h
theorem good_plain (t p : Int) (h1 : 1 ≤ t) (h2 : t ≤ 6) (h3 : 0 ≤ p) (h4 : p ≤ 7) : GoodAce ⟨t, 0, p⟩ := by
  refine ⟨h1, h2, ?_⟩
  simp [mayAceB, h3, h4]
theorem lt_of {a b : Int} (h : a < b := by decide) : a < b := h
theorem makeOf_else {U G : List Ace} (x0 mode : Int) (h : ¬ U.length + G.length = 0) : makeOf U G x0 mode = ⟨1, 0, mode / 64⟩ :: (U ++ (⟨3, 0, Go.bits .xor .i64 (mode / 8 % 8) (x0 % 8)⟩ :: (G ++ [⟨5, 0, mode / 8 % 8⟩, ⟨6, 0, mode % 8⟩]))) := by
  unfold makeOf
  rw [if_neg h]
  simp
theorem makeOf_none (x0 mode : Int) : makeOf [] [] x0 mode = [⟨1, 0, mode / 64⟩, ⟨3, 0, mode / 8 % 8⟩, ⟨6, 0, mode % 8⟩] := rfl
theorem cnt_append (l r : List Ace) (t : Int) : cntT (l ++ r) t = cntT l t + cntT r t := List.countP_append
theorem cnt_cons (a : Ace) (r : List Ace) (t : Int) : cntT (a :: r) t = cntT r t + if a.f0 = t then 1 else 0 := by
  unfold cntT
  rw [List.countP_cons]
  by_cases h : a.f0 = t <;> simp [h]
theorem cnt_nil (t : Int) : cntT [] t = 0 := rfl
theorem makeOf_may (U G : List Ace) (x0 mode : Int) (hx : 0 ≤ x0 ∧ x0 ≤ 255) (hm : 0 ≤ mode ∧ mode < 512) (hU : Run 2 U) (hG : Run 4 G) (hl : U.length + G.length ≤ 6) : mayL (makeOf U G x0 mode) = true := by
  have hxr := xor_int (mode / 8 % 8) (x0 % 8) (by omega) (by omega)
  rw [may_iff]
  have k1 := good_plain 1 (mode / 64) (by decide) (by decide) (by omega) (by omega)
  have k3 := good_plain 3 (mode / 8 % 8) (by decide) (by decide) (by omega) (by omega)
  have kx := good_plain 3 (Go.bits .xor .i64 (mode / 8 % 8) (x0 % 8)) (by decide) (by decide) hxr.1 hxr.2
  have k5 := good_plain 5 (mode / 8 % 8) (by decide) (by decide) (by omega) (by omega)
  have k6 := good_plain 6 (mode % 8) (by decide) (by decide) (by omega) (by omega)
  by_cases h0 : U.length + G.length = 0
  · obtain rfl : U = [] := List.eq_nil_of_length_eq_zero (by omega)
    obtain rfl : G = [] := List.eq_nil_of_length_eq_zero (by omega)
    rw [makeOf_none]
    refine ⟨⟨bad_not k1 (.inl (by show (0 : Int) < 1; decide)), bad_not k3 (.inl (by show (1 : Int) < 3; decide)), bad_not k6 (.inl (by show (3 : Int) < 6; decide)), trivial⟩, rfl, rfl, rfl, rfl, by simp⟩
  · rw [makeOf_else x0 mode h0]
    refine ⟨?_, ?_⟩
    · refine ⟨bad_not k1 (.inl (by show (0 : Int) < 1; decide)), ?_⟩
      refine chain_run (t := 2) _ U _ (.inl (by show (1 : Int) < 2; decide)) hU fun q hq => ?_
      refine ⟨bad_not kx (.inl (by show q.f0 < 3; omega)), ?_⟩
      refine chain_run (t := 4) _ G _ (.inl (by show (3 : Int) < 4; decide)) hG fun q hq => ?_
      exact ⟨bad_not k5 (.inl (by show q.f0 < 5; omega)), bad_not k6 (.inl (by show (5 : Int) < 6; decide)), trivial⟩
    · simp only [cnt_cons, cnt_append, cnt_nil, cnt_run hU, cnt_run hG]
      refine ⟨by simp, by simp, by simp, ?_, by simp; omega⟩
      simp
      rintro rfl rfl
      simp at h0
theorem perm_cons (a : Ace) (r : List Ace) (t : Int) : permL (a :: r) t = if a.f0 = t then a.f2 else permL r t := by
  unfold permL
  rw [List.find?_cons]
  by_cases h : a.f0 = t
  · simp [h]
  · have : (a.f0 == t) = false := by simpa using h
    rw [this, if_neg h]
theorem perm_run {t : Int} {U : List Ace} (h : Run t U) {s : Int} (hs : s ≠ t) (r : List Ace) : permL (U ++ r) s = permL r s := by
  unfold permL
  rw [List.find?_append, find_run h hs]
  rfl
theorem perm_nil (s : Int) : permL [] s = -1 := rfl
theorem makeOf_mode (U G : List Ace) (x0 mode : Int) (hx : 0 ≤ x0 ∧ x0 ≤ 255) (hm : 0 ≤ mode ∧ mode < 512) (hU : Run 2 U) (hG : Run 4 G) :
    permL (makeOf U G x0 mode) 1 = mode / 64 ∧ (0 ≤ permL (makeOf U G x0 mode) 3 ∧ permL (makeOf U G x0 mode) 3 ≤ 7) ∧ permL (makeOf U G x0 mode) 5 ≤ 7 ∧ permL (makeOf U G x0 mode) 6 = mode % 8 ∧ groupL (makeOf U G x0 mode) = mode / 8 % 8 := by
  have hxr := xor_int (mode / 8 % 8) (x0 % 8) (by omega) (by omega)
  unfold groupL
  by_cases h0 : U.length + G.length = 0
  · obtain rfl : U = [] := List.eq_nil_of_length_eq_zero (by omega)
    obtain rfl : G = [] := List.eq_nil_of_length_eq_zero (by omega)
    rw [makeOf_none]
    simp only [perm_cons, perm_nil]
    simp
    omega
  · rw [makeOf_else x0 mode h0]
    simp only [perm_cons, perm_nil, perm_run hU (s := 1) (by decide), perm_run hU (s := 3) (by decide), perm_run hU (s := 5) (by decide), perm_run hU (s := 6) (by decide), perm_run hG (s := 3) (by decide), perm_run hG (s := 5) (by decide), perm_run hG (s := 6) (by decide)]
    simp
    omega
theorem make_may (ns : List Int) (mode : Int) (hb : ∀ x ∈ ns, 0 ≤ x ∧ x ≤ 255) (hm : 0 ≤ mode ∧ mode < 512) : mayL (makeL ns mode) = true := by
  have hr : rounds ns.length ≤ 6 := by unfold rounds; omega
  have hl := make_length ns (rounds ns.length)
  obtain ⟨h1, h2⟩ := makeUG_run ns hb (rounds ns.length)
  refine makeOf_may _ _ _ mode ?_ hm h1 h2 (by omega)
  rw [List.getD_eq_getElem?_getD]
  rcases Nat.lt_or_ge 0 ns.length with h | h
  · rw [List.getElem?_eq_getElem h]; exact hb _ (List.getElem_mem _)
  · rw [List.getElem?_eq_none h]; decide
theorem make_mode (ns : List Int) (mode : Int) (hb : ∀ x ∈ ns, 0 ≤ x ∧ x ≤ 255) (hm : 0 ≤ mode ∧ mode < 512) :
    modeL (makeL ns mode) = mode ∧ (0 ≤ permL (makeL ns mode) 1 ∧ permL (makeL ns mode) 1 ≤ 7) ∧ (0 ≤ permL (makeL ns mode) 3 ∧ permL (makeL ns mode) 3 ≤ 7) ∧ permL (makeL ns mode) 5 ≤ 7 ∧ (0 ≤ permL (makeL ns mode) 6 ∧ permL (makeL ns mode) 6 ≤ 7) := by
  obtain ⟨h1, h2⟩ := makeUG_run ns hb (rounds ns.length)
  have hx : 0 ≤ ns.getD 0 0 ∧ ns.getD 0 0 ≤ 255 := by
    rw [List.getD_eq_getElem?_getD]
    rcases Nat.lt_or_ge 0 ns.length with h | h
    · rw [List.getElem?_eq_getElem h]; exact hb _ (List.getElem_mem _)
    · rw [List.getElem?_eq_none h]; decide
  obtain ⟨e1, e3, e5, e6, eg⟩ := makeOf_mode _ _ _ mode hx hm h1 h2
  unfold makeL
  refine ⟨?_, by rw [e1]; omega, e3, e5, by rw [e6]; omega⟩
  unfold modeL
  rw [e1, e6, eg]
  exact mode_int mode hm.1 hm.2
end Go.Proofs.YtejgnnhmeolphaaDoor
