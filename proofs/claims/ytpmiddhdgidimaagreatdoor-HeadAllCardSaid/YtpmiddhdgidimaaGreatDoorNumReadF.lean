/- num: ReadOctal, ReadBase, ReadField. -/
import Derived.Test.YtpmiddhdgidimaaGreatDoorNumReadB
set_option linter.unusedVariables false
set_option linter.unusedSimpArgs false
namespace Go.Proofs.YtpmiddhdgidimaaGreatDoor
open Go.RowKit Go.Proofs.YtpmiddhdgidimaaGreatDoorW.PrintWords

/-- A number read, as two results. -/
def numV (o : Option Int) : Value := match o with
  | some n => .tuple #[.int .i64 n, .bool true]
  | none => .tuple #[.int .i64 0, .bool false]
theorem ReadOctal_any (s : List UInt8) (w : World) (hs : s.length = 8 ∨ s.length = 12) :
    Calls Tryz.prog 59 #[.string (mkS s)] w fun e w' => e = .returned (numV (readOctT s)) ∧ Below w.heap.size w w' := by
  have hmf : ∀ (fn : Fn) (first cap : Array Value) (w : World), (Instr.makeFunc fn first cap).run Tryz.prog w = .ok (.func fn first cap) w := fun _ _ _ _ => rfl
  have g1 := heap_alloc_new w (.cells #[.string (mkS s)] 9)
  have HB := Aside0.mk (below_alloc (Below.refl w.heap.size w) (.cells #[.string (mkS s)] 9))
  have h := fun W (hb : Below (w.alloc (.cells #[.string (mkS s)] 9)).heap.size (w.alloc (.cells #[.string (mkS s)] 9)) W) => readOctal1 w.heap.size s W (blk_cell ((hb.block _ (blk_lt g1)).trans g1) 0) hs
  cases ho : readOctT s with
  | some n =>
    rw [ho] at h
    have H := Aside0.mk (tryReadOctal_ok [.pointer (some ⟨w.heap.size, 0, none⟩)] n _ h)
    clear h
    go_enter Tryz.func59, Tryz.ntmps59
    go_wp2_with (go_at_call 79; refine H.out.mono ?_; rintro e w1 ⟨rfl, hb1⟩)
    go_ret2
    exact ⟨rfl, below_next HB.out hb1⟩
  | none =>
    rw [ho] at h
    have H := Aside0.mk (tryReadOctal_bad [.pointer (some ⟨w.heap.size, 0, none⟩)] _ h)
    clear h
    go_enter Tryz.func59, Tryz.ntmps59
    go_wp2_with (go_at_call 79; refine H.out.mono ?_; rintro e w1 ⟨rfl, hb1⟩)
    go_ret2
    exact ⟨rfl, below_next HB.out hb1⟩
theorem ReadBase_any (s : List UInt8) (w : World) (hs : s.length = 8 ∨ s.length = 12) :
    Calls Tryz.prog 60 #[.string (mkS s)] w fun e w' => e = .returned (numV (readBaseT s)) ∧ Below w.heap.size w w' := by
  have hmf : ∀ (fn : Fn) (first cap : Array Value) (w : World), (Instr.makeFunc fn first cap).run Tryz.prog w = .ok (.func fn first cap) w := fun _ _ _ _ => rfl
  have g1 := heap_alloc_new w (.cells #[.string (mkS s)] 9)
  have HB := Aside0.mk (below_alloc (Below.refl w.heap.size w) (.cells #[.string (mkS s)] 9))
  have h := fun W (hb : Below (w.alloc (.cells #[.string (mkS s)] 9)).heap.size (w.alloc (.cells #[.string (mkS s)] 9)) W) => readBase1 w.heap.size s W (blk_cell ((hb.block _ (blk_lt g1)).trans g1) 0) hs
  cases ho : readBaseT s with
  | some n =>
    rw [ho] at h
    have H := Aside0.mk (tryReadBase_ok [.pointer (some ⟨w.heap.size, 0, none⟩)] n _ h)
    clear h
    go_enter Tryz.func60, Tryz.ntmps60
    go_wp2_with (go_at_call 79; refine H.out.mono ?_; rintro e w1 ⟨rfl, hb1⟩)
    go_ret2
    exact ⟨rfl, below_next HB.out hb1⟩
  | none =>
    rw [ho] at h
    have H := Aside0.mk (tryReadBase_bad [.pointer (some ⟨w.heap.size, 0, none⟩)] _ h)
    clear h
    go_enter Tryz.func60, Tryz.ntmps60
    go_wp2_with (go_at_call 79; refine H.out.mono ?_; rintro e w1 ⟨rfl, hb1⟩)
    go_ret2
    exact ⟨rfl, below_next HB.out hb1⟩
theorem readBase_range {s : List UInt8} {n : Int} (h : readBaseT s = some n) : -9223372036854775808 ≤ n ∧ n ≤ 9223372036854775807 := by
  unfold readBaseT at h
  split at h
  · injection h with h
    subst h
    unfold readBV
    rw [IntKind.wrap_i64]
    omega
  · cases h
theorem ReadField_any (s : List UInt8) (w : World) (hs : s.length = 8 ∨ s.length = 12) :
    Calls Tryz.prog 43 #[.string (mkS s)] w fun e w' => e = .returned (numV (readFieldT s)) ∧ Below w.heap.size w w' := by
  have h1 := fun W => ReadOctal_any s W hs
  have h2 := fun W => ReadBase_any s W hs
  unfold readFieldT
  cases ho : readOctT s with
  | some n =>
    rw [ho] at h1
    have H1 := Aside0.mk h1
    clear h1 h2
    go_enter Tryz.func43, Tryz.ntmps43
    go_wp2_with (go_at_call 59; refine (H1.out _).mono ?_; rintro e w1 ⟨rfl, hb1⟩; simp only [numV])
    go_ret2
    exact ⟨rfl, hb1⟩
  | none =>
    rw [ho] at h1
    have H1 := Aside0.mk h1
    clear h1
    cases hb : readBaseT s with
    | none =>
      rw [hb] at h2
      have H2 := Aside0.mk h2
      have HF := Aside0.mk (fun W => Field_any 0 s.length W hs (by decide) (by decide))
      clear h2
      go_enter Tryz.func43, Tryz.ntmps43
      cases hf : fieldT 0 s.length with
      | none =>
        rw [hf] at HF
        go_wp2_with (first
          | (go_at_call 59; refine (H1.out _).mono ?_; rintro e w1 ⟨rfl, hb1⟩; simp only [numV])
          | (go_at_call 60; refine (H2.out _).mono ?_; rintro e w2 ⟨rfl, hb2⟩; simp only [numV])
          | (go_at_call 26; refine (HF.out _).mono ?_; rintro e w3 ⟨rfl, hb3⟩; simp only [saidV]))
        go_ret2
        exact ⟨rfl, below_next (below_next hb1 hb2) hb3⟩
      | some l =>
        rw [hf] at HF
        go_wp2_with (first
          | (go_at_call 59; refine (H1.out _).mono ?_; rintro e w1 ⟨rfl, hb1⟩; simp only [numV])
          | (go_at_call 60; refine (H2.out _).mono ?_; rintro e w2 ⟨rfl, hb2⟩; simp only [numV])
          | (go_at_call 26; refine (HF.out _).mono ?_; rintro e w3 ⟨rfl, hb3⟩; simp only [saidV]))
        go_ret2
        exact ⟨rfl, below_next (below_next hb1 hb2) hb3⟩
    | some n =>
      have hr := readBase_range hb
      rw [hb] at h2
      have H2 := Aside0.mk h2
      have HF := Aside0.mk (fun W => Field_any n s.length W hs hr.1 hr.2)
      clear h2
      simp only
      cases hf : fieldT n s.length with
      | none =>
        rw [hf] at HF
        rw [if_neg (by simp)]
        go_enter Tryz.func43, Tryz.ntmps43
        go_wp2_with (first
          | (go_at_call 59; refine (H1.out _).mono ?_; rintro e w1 ⟨rfl, hb1⟩; simp only [numV])
          | (go_at_call 60; refine (H2.out _).mono ?_; rintro e w2 ⟨rfl, hb2⟩; simp only [numV])
          | (go_at_call 26; refine (HF.out _).mono ?_; rintro e w3 ⟨rfl, hb3⟩; simp only [saidV]))
        go_ret2
        exact ⟨rfl, below_next (below_next hb1 hb2) hb3⟩
      | some l =>
        rw [hf] at HF
        by_cases hl : l = s
        · subst hl
          rw [if_pos rfl]
          go_enter Tryz.func43, Tryz.ntmps43
          go_wp2_with (first
            | (go_at_call 59; refine (H1.out _).mono ?_; rintro e w1 ⟨rfl, hb1⟩; simp only [numV])
            | (go_at_call 60; refine (H2.out _).mono ?_; rintro e w2 ⟨rfl, hb2⟩; simp only [numV])
            | (go_at_call 26; refine (HF.out _).mono ?_; rintro e w3 ⟨rfl, hb3⟩; simp only [saidV]))
          go_ret2
          exact ⟨rfl, below_next (below_next hb1 hb2) hb3⟩
        · rw [if_neg (by simpa using hl)]
          have hl2 : (l == s) = false := by simpa using hl
          clear hl
          go_enter Tryz.func43, Tryz.ntmps43
          go_wp2_with (first
            | (go_at_call 59; refine (H1.out _).mono ?_; rintro e w1 ⟨rfl, hb1⟩; simp only [numV])
            | (go_at_call 60; refine (H2.out _).mono ?_; rintro e w2 ⟨rfl, hb2⟩; simp only [numV])
            | (go_at_call 26; refine (HF.out _).mono ?_; rintro e w3 ⟨rfl, hb3⟩; simp only [saidV]))
          go_ret2
          exact ⟨rfl, below_next (below_next hb1 hb2) hb3⟩
end Go.Proofs.YtpmiddhdgidimaaGreatDoor
