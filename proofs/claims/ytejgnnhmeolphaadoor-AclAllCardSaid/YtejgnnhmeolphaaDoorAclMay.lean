/- acl.May: whether a list may be: what the program's loop reckons. -/
import Derived.Test.YtejgnnhmeolphaaDoorPAclRx
import Derived.Test.YtejgnnhmeolphaaDoorAclA
set_option linter.unusedVariables false
set_option linter.unusedSimpArgs false
namespace Go.Proofs.YtejgnnhmeolphaaDoor
open Go.RowKit Go.Proofs.YtejgnnhmeolphaaDoorW.PrintWords Go.Proofs.YtejgnnhmeolphaaDoor.PAclR

abbrev Ace := S27
def ace0 : Ace := ⟨0, 0, 0⟩
def namedB (t : Int) : Bool := t == 2 || t == 4
/-- May one part be by itself? -/
def mayAceB (a : Ace) : Bool := decide (0 ≤ a.f2) && decide (a.f2 ≤ 7) && decide (0 ≤ a.f1) && decide (a.f1 ≤ 2147483647) && ((a.f1 == 0) || namedB a.f0)
/-- A part that may not stand behind another one. -/
def badB (last a : Ace) : Bool := decide (a.f0 < 1) || decide (6 < a.f0) || !mayAceB a || decide (a.f0 < last.f0) || (a.f0 == last.f0 && decide (a.f1 ≤ last.f1))
/-- All parts one behind the other: the last one, and how many there are of each tag. -/
def scan : List Ace → Ace → List Int → Option (Ace × List Int)
  | [], last, m => some (last, m)
  | a :: r, last, m => if badB last a then none else scan r a (m.set a.f0.toNat (m.getD a.f0.toNat 0 + 1))
def zeros7 : List Int := [0, 0, 0, 0, 0, 0, 0]
def mayL (l : List Ace) : Bool :=
  match scan l ace0 zeros7 with
  | none => false
  | some (_, m) => (m.getD 1 0 == 1) && (m.getD 3 0 == 1) && (m.getD 6 0 == 1) && (m.getD 5 0 == if m.getD 2 0 + m.getD 4 0 < 1 then m.getD 2 0 + m.getD 4 0 else 1) && decide ((l.length : Int) ≤ 32)

theorem mayAce_f (a : Ace) : acl_mayAce.f a.f0 a.f1 a.f2 = some (mayAceB a) := by
  unfold acl_mayAce.f acl_named.f mayAceB namedB
  have e5 : (a.f1 == 0) = decide (a.f1 = 0) := rfl
  have e6 : (a.f0 == 2) = decide (a.f0 = 2) := rfl
  by_cases h1 : (0 : Int) ≤ a.f2 <;> by_cases h2 : a.f2 ≤ 7 <;> by_cases h3 : (0 : Int) ≤ a.f1 <;> by_cases h4 : a.f1 ≤ 2147483647 <;> by_cases h5 : a.f1 = 0 <;> by_cases h6 : a.f0 = 2 <;> simp [e5, e6, h1, h2, h3, h4, h5, h6]

theorem scan_append (l r : List Ace) : ∀ (last : Ace) (m : List Int), scan (l ++ r) last m = (scan l last m).bind fun x => scan r x.1 x.2 := by
  induction l with
  | nil => intro last m; rfl
  | cons a l ih =>
    intro last m
    simp only [List.cons_append, scan]
    split
    · rfl
    · exact ih _ _
theorem scan_length (l : List Ace) : ∀ (last : Ace) (m : List Int) (x : Ace × List Int), scan l last m = some x → x.2.length = m.length := by
  induction l with
  | nil => intro last m x h; simp only [scan, Option.some.injEq] at h; rw [← h]
  | cons a l ih =>
    intro last m x h
    simp only [scan] at h
    split at h
    · exact absurd h (by simp)
    · have := ih _ _ _ h
      simpa using this

theorem mayAce_any (a : Ace) (w : World) : Calls Tryd.prog 26 #[.agg #[.int .i64 a.f0, .int .i64 a.f1, .int .i64 a.f2]] w fun e w' => e = .returned (.bool (mayAceB a)) ∧ Below w.heap.size w w' :=
  acl_mayAce.calls _ _ _ _ w (mayAce_f a)

theorem drop_at {l : List Ace} {i : Nat} {a : Ace} (h : Aside0 (rd_T27 l (i : Int) = a)) (hi : i < l.length) : l.drop i = a :: l.drop (i + 1) := by
  have e : rd_T27 l (i : Int) = l[i] := by
    unfold rd_T27
    rw [Int.toNat_natCast, List.getD_eq_getElem?_getD, List.getElem?_eq_getElem hi]; rfl
  rw [List.drop_eq_getElem_cons hi, ← e, h.out]
theorem may_bad {l : List Ace} {i : Nat} {a last : Ace} {m : List Int} (h : scan (l.take i) ace0 zeros7 = some (last, m)) (hd : l.drop i = a :: l.drop (i + 1)) (hb : badB last a = true) : mayL l = false := by
  have : scan l ace0 zeros7 = none := by
    conv => lhs; rw [← List.take_append_drop i l]
    rw [scan_append, h, hd]
    simp [scan, hb]
  unfold mayL
  rw [this]
theorem scan_next {l : List Ace} {i : Nat} {a last : Ace} {m : List Int} (h : scan (l.take i) ace0 zeros7 = some (last, m)) (hi : i < l.length) (hd : l.drop i = a :: l.drop (i + 1)) (hb : ¬ badB last a = true) :
    scan (l.take (i + 1)) ace0 zeros7 = some (a, m.set a.f0.toNat (m.getD a.f0.toNat 0 + 1)) := by
  have e : l[i] = a := by
    have := List.drop_eq_getElem_cons hi
    rw [hd] at this
    exact (List.cons.inj this).1.symm
  rw [List.take_succ_eq_append_getElem hi, scan_append, h, e]
  simp only [Option.bind_some, scan]
  rw [if_neg hb]
theorem bad_ways {last a : Ace} (h : badB last a = true) : a.f0 < 1 ∨ (1 ≤ a.f0 ∧ 6 < a.f0) ∨ (1 ≤ a.f0 ∧ a.f0 ≤ 6 ∧ mayAceB a = false) ∨ (1 ≤ a.f0 ∧ a.f0 ≤ 6 ∧ mayAceB a = true ∧ a.f0 < last.f0) ∨
    (1 ≤ a.f0 ∧ a.f0 ≤ 6 ∧ mayAceB a = true ∧ a.f0 = last.f0 ∧ a.f1 ≤ last.f1) := by
  by_cases q1 : a.f0 < 1
  · exact .inl q1
  by_cases q2 : 6 < a.f0
  · exact .inr (.inl ⟨by omega, q2⟩)
  cases q3 : mayAceB a
  · exact .inr (.inr (.inl ⟨by omega, by omega, rfl⟩))
  by_cases q4 : a.f0 < last.f0
  · exact .inr (.inr (.inr (.inl ⟨by omega, by omega, rfl, q4⟩)))
  refine .inr (.inr (.inr (.inr ⟨by omega, by omega, rfl, ?_⟩)))
  simp [badB, q1, q2, q3, q4] at h
  exact h
theorem good_of {last a : Ace} (h : ¬ badB last a = true) : 1 ≤ a.f0 ∧ a.f0 ≤ 6 ∧ mayAceB a = true ∧ last.f0 ≤ a.f0 ∧ (a.f0 = last.f0 → last.f1 < a.f1) := by
  simp [badB] at h
  exact ⟨h.1.1.1.1, h.1.1.1.2, h.1.1.2, h.1.2, h.2⟩

theorem mayAce_any3 (t i p : Int) (w : World) : Calls Tryd.prog 26 #[.agg #[.int .i64 t, .int .i64 i, .int .i64 p]] w fun e w' => e = .returned (.bool (mayAceB ⟨t, i, p⟩)) ∧ Below w.heap.size w w' :=
  mayAce_any ⟨t, i, p⟩ w
theorem scan_bd (l : List Ace) : ∀ (last : Ace) (m : List Int) (x : Ace × List Int) (k : Int), scan l last m = some x → (∀ y ∈ m, 0 ≤ y ∧ y ≤ k) → ∀ y ∈ x.2, 0 ≤ y ∧ y ≤ k + l.length := by
  induction l with
  | nil => intro last m x k h hm; simp only [scan, Option.some.injEq] at h; subst h; simpa using hm
  | cons a l ih =>
    intro last m x k h hm y hy
    simp only [scan] at h
    split at h
    · exact absurd h (by simp)
    · have := ih _ _ _ (k + 1) h (fun z hz => by
        rcases List.mem_or_eq_of_mem_set hz with hz | rfl
        · have := hm z hz; omega
        · have : 0 ≤ m.getD a.f0.toNat 0 ∧ m.getD a.f0.toNat 0 ≤ k ∨ m.getD a.f0.toNat 0 = 0 := by
            rw [List.getD_eq_getElem?_getD]
            rcases Nat.lt_or_ge a.f0.toNat m.length with hl | hl
            · left; rw [List.getElem?_eq_getElem hl]; exact hm _ (List.getElem_mem hl)
            · right; rw [List.getElem?_eq_none hl]; rfl
          rcases this with this | this
          · omega
          · rw [this]
            cases m with
            | nil => simp at hz
            | cons z0 zs => have := hm z0 (by simp); omega) y hy
      simp at this ⊢
      omega

set_option maxHeartbeats 4000000 in
set_option maxRecDepth 100000 in
theorem aclMay_any (A : Option Addr) (c : Nat) (l : List Ace) (w : World) (hr : Kd.C k27 w A l.length l) (hc : l.length ≤ c) (hl : l.length ≤ 1000000) :
    Calls Tryd.prog 10 #[.slice A l.length c] w fun e w' => e = .returned (.bool (mayL l)) ∧ Below w.heap.size w w' := by
  have HR := Aside0.mk hr
  clear hr
  go_enter Tryd.func10, Tryd.ntmps10
  go_wp2_with fail
  go_loopw [11] (fun v wr => ∃ i : Nat, i ≤ l.length ∧ v = .int .i64 i ∧ ∃ (lt li lp : Int) (m : List Int), Aside0 (scan (l.take i) ace0 zeros7 = some (⟨lt, li, lp⟩, m)) ∧ Aside0 (wr.heap[w.heap.size]? = some (.cells (m.map (.int .i64)).toArray 53 (0, 0))) ∧ Aside0 (wr.heap[w.heap.size + 1]? = some (.cells #[.int .i64 lt, .int .i64 li, .int .i64 lp] 27 (0, 0))) ∧ Aside0 (Below w.heap.size w wr) ∧ w.heap.size + 1 < wr.heap.size) (fun v _ => l.length - (intOf v).toNat)
  case atStart =>
    refine ⟨0, Nat.zero_le _, rfl, 0, 0, 0, zeros7, ⟨by simp [scan, ace0]⟩, ⟨?_⟩, ⟨?_⟩, ⟨by go_grown⟩, by simp⟩
    · exact (heap_two w _ _).1
    · exact (heap_two w _ _).2
  case round =>
    obtain ⟨i, hi, rfl, lt, li, lp, m, HS, HM, HL, HB, hz⟩ := hrel
    have hz0 : w.heap.size < wr.heap.size := by omega
    by_cases hlt : i < l.length
    · obtain ⟨ad, rfl, h0, h1, h2⟩ := at_T27 (Kd.C_below HR.out HB.out) (i : Int) (by omega) (by omega)
      obtain ⟨⟨t, id, pm⟩, ha⟩ : ∃ a, rd_T27 l (i : Int) = a := ⟨_, rfl⟩
      rw [ha, Int.toNat_natCast] at h0 h1 h2
      have HA := Aside0.mk ha
      clear ha
      have hl0 : wr.cell? ⟨w.heap.size + 1, 0, none⟩ = some (.int .i64 lt) := (blk_cell HL.out 0).trans rfl
      have hl1 : wr.cell? ⟨w.heap.size + 1, 1, none⟩ = some (.int .i64 li) := (blk_cell HL.out 1).trans rfl
      have hl2 : wr.cell? ⟨w.heap.size + 1, 2, none⟩ = some (.int .i64 lp) := (blk_cell HL.out 2).trans rfl
      have fl0 := blk_frozen HL.out 0
      have fl1 := blk_frozen HL.out 1
      have fl2 := blk_frozen HL.out 2
      by_cases hb : badB ⟨lt, li, lp⟩ ⟨t, id, pm⟩ = true
      · have hml := may_bad HS.out (drop_at HA hlt) hb
        have HML := Aside0.mk hml
        clear hml
        rcases bad_ways hb with p1 | ⟨p0, p1⟩ | ⟨p0, p1, p2⟩ | ⟨p0, p1, p2, p3⟩ | ⟨p0, p1, p2, p3, p4⟩
        all_goals clear hb
        · simp only at p1
          go_wp2_with fail
          go_ret
          exact ⟨by rw [HML.out]; rfl, below_alloc HB.out _⟩
        · simp only at p0 p1
          go_wp2_with fail
          go_ret
          exact ⟨by rw [HML.out]; rfl, below_alloc HB.out _⟩
        · simp only at p0 p1
          go_wp2_with (go_at_call 26; refine (mayAce_any3 _ _ _ _).mono ?_; rintro e w1 ⟨rfl, hb1⟩; obtain ⟨hcq, hfq, hzq⟩ := bcell hb1; simp at hcq hfq hzq)
          go_ret
          exact ⟨by rw [HML.out]; rfl, below_next (below_alloc HB.out _) hb1⟩
        · simp only at p0 p1 p3
          go_wp2_with (go_at_call 26; refine (mayAce_any3 _ _ _ _).mono ?_; rintro e w1 ⟨rfl, hb1⟩; obtain ⟨hcq, hfq, hzq⟩ := bcell hb1; simp at hcq hfq hzq)
          go_ret
          exact ⟨by rw [HML.out]; rfl, below_next (below_alloc HB.out _) hb1⟩
        · simp only at p0 p1 p3 p4
          subst p3
          go_wp2_with (go_at_call 26; refine (mayAce_any3 _ _ _ _).mono ?_; rintro e w1 ⟨rfl, hb1⟩; obtain ⟨hcq, hfq, hzq⟩ := bcell hb1; simp at hcq hfq hzq)
          go_ret
          exact ⟨by rw [HML.out]; rfl, below_next (below_alloc HB.out _) hb1⟩
      · have hm7 : m.length = 7 := by have := scan_length _ _ _ _ HS.out; simpa [zeros7] using this
        have hsn := scan_next HS.out hlt (drop_at HA hlt) hb
        have HSN := Aside0.mk hsn
        clear hsn
        obtain ⟨p1, p2, p3, p4, p5⟩ := good_of hb
        simp only at p1 p2 p4 p5
        clear hb
        have hk : t.toNat < m.length := by omega
        have hma : wr.cell? ⟨w.heap.size, t.toNat, none⟩ = some (.int .i64 (m.getD t.toNat 0)) := by
          rw [blk_cell HM.out]
          simp [List.getD_eq_getElem?_getD, List.getElem?_eq_getElem hk]
        have fma := blk_frozen HM.out t.toNat
        have hbd : 0 ≤ m.getD t.toNat 0 ∧ m.getD t.toNat 0 ≤ 1000000 := by
          have := scan_bd _ _ _ _ 0 HS.out (by simp [zeros7]) (m.getD t.toNat 0) (by rw [List.getD_eq_getElem?_getD, List.getElem?_eq_getElem hk]; exact List.getElem_mem hk)
          rw [List.length_take] at this; omega
        obtain ⟨q, hq⟩ : ∃ q, m.getD t.toNat 0 = q := ⟨_, rfl⟩
        rw [hq] at hma hbd
        have HQ := Aside0.mk hq
        clear hq
        by_cases p6 : t = lt
        · subst p6
          have p7 := p5 rfl
          clear p5 p4
          go_wp2_with (go_at_call 26; refine (mayAce_any3 _ _ _ _).mono ?_; rintro e w1 ⟨rfl, hb1⟩; obtain ⟨hcq, hfq, hzq⟩ := bcell hb1; simp at hcq hfq hzq)
          go_roundw
          case measure => simp [intOf]; omega
          case rel =>
            refine ⟨i + 1, by omega, by go_num, t, id, pm, m.set t.toNat (q + 1), ⟨by rw [← HQ.out]; exact HSN.out⟩, ⟨?_⟩, ⟨?_⟩, ⟨below_set (below_set (below_set (below_set (below_next (below_alloc HB.out _) hb1) (by omega)) (by omega)) (by omega)) (by omega)⟩, by simp; omega⟩
            · exact blk_miss (blk_miss (blk_miss (blk_put (blk_below (blk_alloc HM.out _) hb1) _ _ (by simp)) (by omega)) (by omega)) (by omega)
            · exact blk_put (blk_put (blk_put (blk_miss (blk_below (blk_alloc HL.out _) hb1) (by omega)) 0 _ rfl) 1 _ rfl) 2 _ rfl
        · have p7 : lt < t := by omega
          clear p5 p6 p4
          go_wp2_with (go_at_call 26; refine (mayAce_any3 _ _ _ _).mono ?_; rintro e w1 ⟨rfl, hb1⟩; obtain ⟨hcq, hfq, hzq⟩ := bcell hb1; simp at hcq hfq hzq)
          go_roundw
          case measure => simp [intOf]; omega
          case rel =>
            refine ⟨i + 1, by omega, by go_num, t, id, pm, m.set t.toNat (q + 1), ⟨by rw [← HQ.out]; exact HSN.out⟩, ⟨?_⟩, ⟨?_⟩, ⟨below_set (below_set (below_set (below_set (below_next (below_alloc HB.out _) hb1) (by omega)) (by omega)) (by omega)) (by omega)⟩, by simp; omega⟩
            · exact blk_miss (blk_miss (blk_miss (blk_put (blk_below (blk_alloc HM.out _) hb1) _ _ (by simp)) (by omega)) (by omega)) (by omega)
            · exact blk_put (blk_put (blk_put (blk_miss (blk_below (blk_alloc HL.out _) hb1) (by omega)) 0 _ rfl) 1 _ rfl) 2 _ rfl
    · obtain rfl : i = l.length := by omega
      have hm7 : m.length = 7 := by have := scan_length _ _ _ _ HS.out; simpa [zeros7] using this
      have hbd : ∀ y ∈ m, 0 ≤ y ∧ y ≤ 1000000 := fun y hy => by
        have := scan_bd _ _ _ _ 0 HS.out (by simp [zeros7]) y hy
        rw [List.length_take] at this; omega
      obtain ⟨m0, m1, m2, m3, m4, m5, m6, rfl⟩ : ∃ m0 m1 m2 m3 m4 m5 m6 : Int, m = [m0, m1, m2, m3, m4, m5, m6] := by
        match m, hm7 with
        | [a, b, c, d, e, f, g], _ => exact ⟨a, b, c, d, e, f, g, rfl⟩
      have hml : mayL l = ((m1 == 1) && (m3 == 1) && (m6 == 1) && (m5 == if m2 + m4 < 1 then m2 + m4 else 1) && decide ((l.length : Int) ≤ 32)) := by
        have := HS.out
        rw [List.take_length] at this
        unfold mayL
        rw [this]
        rfl
      have HML := Aside0.mk hml
      clear hml hm7
      have c1 : wr.cell? ⟨w.heap.size, 1, none⟩ = some (.int .i64 m1) := (blk_cell HM.out 1).trans rfl
      have c2 : wr.cell? ⟨w.heap.size, 2, none⟩ = some (.int .i64 m2) := (blk_cell HM.out 2).trans rfl
      have c3 : wr.cell? ⟨w.heap.size, 3, none⟩ = some (.int .i64 m3) := (blk_cell HM.out 3).trans rfl
      have c4 : wr.cell? ⟨w.heap.size, 4, none⟩ = some (.int .i64 m4) := (blk_cell HM.out 4).trans rfl
      have c5 : wr.cell? ⟨w.heap.size, 5, none⟩ = some (.int .i64 m5) := (blk_cell HM.out 5).trans rfl
      have c6 : wr.cell? ⟨w.heap.size, 6, none⟩ = some (.int .i64 m6) := (blk_cell HM.out 6).trans rfl
      have b2 := hbd m2 (by simp)
      have b4 := hbd m4 (by simp)
      clear hbd
      go_wp2_with fail
      all_goals
        clear c1 c2 c3 c4 c5 c6
        go_ret
        refine ⟨?_, HB.out⟩
        rw [HML.out]
        refine congrArg (fun b => Ending.returned (Value.bool b)) ?_
        (try simp only [List.getD_cons_zero, List.getD_cons_succ])
        clear HL HM HS HML HB HR
        first | (simp_all; done) | (simp_all; omega) | (simp_all; intro hq; split at hq <;> omega)
end Go.Proofs.YtejgnnhmeolphaaDoor
