/- acl.Same: slices.Equal over parts. -/
import Derived.Test.YtejgnnhmeolphaaDoorAclMay
set_option linter.unusedVariables false
set_option linter.unusedSimpArgs false
namespace Go.Proofs.YtejgnnhmeolphaaDoor
open Go.RowKit Go.Proofs.YtejgnnhmeolphaaDoorW.PrintWords Go.Proofs.YtejgnnhmeolphaaDoor.PAclR

def aceEq (a b : Ace) : Bool := (a.f0 == b.f0) && (a.f1 == b.f1) && (a.f2 == b.f2)
theorem aceEq_iff (a b : Ace) : aceEq a b = true ↔ a = b := by
  cases a; cases b
  simp [aceEq, and_assoc]
def sameL : List Ace → List Ace → Bool
  | [], [] => true
  | a :: l, b :: m => aceEq a b && sameL l m
  | _, _ => false
theorem sameL_iff : ∀ l m : List Ace, sameL l m = true ↔ l = m
  | [], [] => by simp [sameL]
  | [], b :: m => by simp [sameL]
  | a :: l, [] => by simp [sameL]
  | a :: l, b :: m => by simp [sameL, aceEq_iff, sameL_iff l m]
theorem sameL_len {l m : List Ace} (h : l.length ≠ m.length) : sameL l m = false := by
  cases hs : sameL l m with
  | false => rfl
  | true => exact absurd (congrArg List.length ((sameL_iff l m).1 hs)) h
theorem sameL_at {l m : List Ace} {i : Nat} {a b : Ace} {r s : List Ace} (h1 : l.drop i = a :: r) (h2 : m.drop i = b :: s) (h : aceEq a b = false) : sameL l m = false := by
  cases hs : sameL l m with
  | false => rfl
  | true =>
    obtain rfl := (sameL_iff l m).1 hs
    rw [h1] at h2
    obtain ⟨rfl, _⟩ := List.cons.inj h2
    rw [(aceEq_iff a a).2 rfl] at h
    cases h
theorem sameL_take {l m : List Ace} (hl : l.length = m.length) (h : l.take l.length = m.take l.length) : sameL l m = true := by
  rw [sameL_iff]
  rw [List.take_length, hl, List.take_length] at h
  exact h

theorem take_next {l m : List Ace} {i : Nat} {a : Ace} {r s : List Ace} (h : l.take i = m.take i) (h1 : l.drop i = a :: r) (h2 : m.drop i = a :: s) : l.take (i + 1) = m.take (i + 1) := by
  have e1 : l[i]? = some a := by have := congrArg (fun q => q[0]?) h1; simpa using this
  have e2 : m[i]? = some a := by have := congrArg (fun q => q[0]?) h2; simpa using this
  rw [List.take_add_one, List.take_add_one, h, e1, e2]
set_option maxHeartbeats 2000000 in
set_option maxRecDepth 100000 in
theorem equal_any (A B : Option Addr) (c d : Nat) (l m : List Ace) (w : World) (h1 : Kd.C k27 w A l.length l) (h2 : Kd.C k27 w B m.length m) (hc : l.length ≤ c) (hd : m.length ≤ d) (hl : l.length ≤ 1000000) (hm : m.length ≤ 140737488355328) :
    Calls Tryd.prog 35 #[.slice A l.length c, .slice B m.length d] w fun e w' => e = .returned (.bool (sameL l m)) ∧ Below w.heap.size w w' := by
  have H1 := Aside0.mk h1
  have H2 := Aside0.mk h2
  clear h1 h2
  by_cases hlen : l.length = m.length
  · go_enter Tryd.func35, Tryd.ntmps35
    go_wp2_with fail
    have HLN := Aside0.mk hlen
    go_loopw [13] (fun v wr => ∃ i : Nat, i ≤ l.length ∧ v = .int .i64 i ∧ Aside0 (l.take i = m.take i) ∧ Aside0 (Below w.heap.size w wr)) (fun v _ => l.length - (intOf v).toNat)
    case atStart => exact ⟨0, Nat.zero_le _, rfl, ⟨rfl⟩, ⟨Below.refl _ _⟩⟩
    case round =>
      obtain ⟨i, hi, rfl, HT, HB⟩ := hrel
      have hlm : i ≤ m.length := by omega
      by_cases hlt : i < l.length
      · have hltm : i < m.length := by omega
        have hlt' : ((i : Nat) : Int) < ((l.length : Nat) : Int) := by omega
        have hltm' : ((i : Nat) : Int) < ((m.length : Nat) : Int) := by omega
        obtain ⟨ad, rfl, p0, p1, p2⟩ := at_T27 (Kd.C_below H1.out HB.out) (i : Int) (by omega) (by omega)
        obtain ⟨bd, rfl, q0, q1, q2⟩ := at_T27 (Kd.C_below H2.out HB.out) (i : Int) (by omega) (by omega)
        obtain ⟨⟨t, id, pm⟩, ha⟩ : ∃ a, rd_T27 l (i : Int) = a := ⟨_, rfl⟩
        obtain ⟨⟨t', id', pm'⟩, hb⟩ : ∃ a, rd_T27 m (i : Int) = a := ⟨_, rfl⟩
        rw [ha, Int.toNat_natCast] at p0 p1 p2
        rw [hb, Int.toNat_natCast] at q0 q1 q2
        simp only at p0 p1 p2 q0 q1 q2
        have HD := Aside0.mk (drop_at ⟨ha⟩ hlt)
        have HE := Aside0.mk (drop_at ⟨hb⟩ hltm)
        clear ha hb
        by_cases h1 : t = t'
        · subst h1
          by_cases h2 : id = id'
          · subst h2
            by_cases h3 : pm = pm'
            · subst h3
              go_wp2_with fail
              go_quiet (fail)
              go_wp2_with fail
              exact ⟨⟨i + 1, by omega, by go_num, ⟨take_next HT.out HD.out HE.out⟩, ⟨below_drewN HB.out _⟩⟩, by simp [intOf]; omega⟩
            · have HS := Aside0.mk (sameL_at HD.out HE.out (by simp [aceEq, h3]))
              go_wp2_with fail
              go_quiet (fail)
              go_wp2_with fail
              go_ret
              exact ⟨by rw [HS.out]; rfl, below_drewN HB.out _⟩
          · have HS := Aside0.mk (sameL_at HD.out HE.out (by simp [aceEq, h2]))
            go_wp2_with fail
            go_quiet (fail)
            go_wp2_with fail
            go_ret
            exact ⟨by rw [HS.out]; rfl, below_drewN HB.out _⟩
        · have HS := Aside0.mk (sameL_at HD.out HE.out (by simp [aceEq, h1]))
          go_wp2_with fail
          go_quiet (fail)
          go_wp2_with fail
          go_ret
          exact ⟨by rw [HS.out]; rfl, below_drewN HB.out _⟩
      · obtain rfl : i = l.length := by omega
        have HS := Aside0.mk (sameL_take hlen HT.out)
        go_wp2_with fail
        go_ret
        exact ⟨by rw [HS.out]; rfl, HB.out⟩
  · have hne : ¬ ((l.length : Nat) : Int) = ((m.length : Nat) : Int) := by omega
    have HS := Aside0.mk (sameL_len hlen)
    go_enter Tryd.func35, Tryd.ntmps35
    go_wp2_with fail
    go_ret
    exact ⟨by rw [HS.out]; rfl, Below.refl _ _⟩
set_option maxHeartbeats 2000000 in
theorem same_any (A B : Option Addr) (c d : Nat) (l m : List Ace) (w : World) (h1 : Kd.C k27 w A l.length l) (h2 : Kd.C k27 w B m.length m) (hc : l.length ≤ c) (hd : m.length ≤ d) (hl : l.length ≤ 1000000) (hm : m.length ≤ 140737488355328) :
    Calls Tryd.prog 18 #[.slice A l.length c, .slice B m.length d] w fun e w' => e = .returned (.bool (sameL l m)) ∧ Below w.heap.size w w' := by
  have HE := Aside0.mk (equal_any A B c d l m w h1 h2 hc hd hl hm)
  clear h1 h2
  go_enter Tryd.func18, Tryd.ntmps18
  go_wp2_with fail
  refine HE.out.mono ?_
  rintro e w1 ⟨rfl, hb⟩
  go_wp2_with fail
  go_ret
  exact ⟨rfl, hb⟩
end Go.Proofs.YtejgnnhmeolphaaDoor
