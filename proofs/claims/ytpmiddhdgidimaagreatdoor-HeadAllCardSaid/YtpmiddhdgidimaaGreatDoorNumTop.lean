/- num: Octal, Base, Field. -/
import Derived.Test.YtpmiddhdgidimaaGreatDoorNumTry
set_option linter.unusedVariables false
set_option linter.unusedSimpArgs false
namespace Go.Proofs.YtpmiddhdgidimaaGreatDoor
open Go.RowKit Go.Proofs.YtpmiddhdgidimaaGreatDoorW.PrintWords

theorem octal1 (p q : Nat) (n : Int) (wd : Nat) (w : World) (hp : w.cell? ⟨p, 0, none⟩ = some (.int .i64 n)) (hq : w.cell? ⟨q, 0, none⟩ = some (.int .i64 (wd : Int))) (hw : wd = 8 ∨ wd = 12) (hn : n ≤ 9223372036854775807) :
    Calls Tryz.prog 65 #[.pointer (some ⟨p, 0, none⟩), .pointer (some ⟨q, 0, none⟩)] w fun e w' => (if octOk wd n = true then e = .returned (.string (mkS (octL wd n.toNat))) else e = .panicked noFieldC) ∧ Below w.heap.size w w' := by
  have h := octal_is n wd hw hn
  cases hok : octOk wd n with
  | true =>
    simp only [hok, if_true] at h ⊢
    have H := Aside0.mk h
    clear h
    go_enter Tryz.func65, Tryz.ntmps65
    go_wp2_with (go_at_call 66; refine (H.out _).mono ?_; rintro e w1 ⟨rfl, hb1⟩)
    go_ret
    exact ⟨rfl, hb1⟩
  | false =>
    simp only [hok, Bool.false_eq_true, if_false] at h ⊢
    have H := Aside0.mk h
    clear h
    go_enter Tryz.func65, Tryz.ntmps65
    go_wp2_with (go_at_call 66; refine (H.out _).mono ?_; rintro e w1 ⟨rfl, hb1⟩)
    exact ⟨rfl, rfl, hb1⟩
theorem base1 (p q : Nat) (n : Int) (wd : Nat) (w : World) (hp : w.cell? ⟨p, 0, none⟩ = some (.int .i64 n)) (hq : w.cell? ⟨q, 0, none⟩ = some (.int .i64 (wd : Int))) (hw : wd = 8 ∨ wd = 12) (hn0 : -9223372036854775808 ≤ n) (hn : n ≤ 9223372036854775807) :
    Calls Tryz.prog 67 #[.pointer (some ⟨p, 0, none⟩), .pointer (some ⟨q, 0, none⟩)] w fun e w' => (if baseOk wd n = true then e = .returned (.string (mkS (baseL wd n))) else e = .panicked noFieldC) ∧ Below w.heap.size w w' := by
  have h := base_is n wd hw hn0 hn
  cases hok : baseOk wd n with
  | true =>
    simp only [hok, if_true] at h ⊢
    have H := Aside0.mk h
    clear h
    go_enter Tryz.func67, Tryz.ntmps67
    go_wp2_with (go_at_call 68; refine (H.out _).mono ?_; rintro e w1 ⟨rfl, hb1⟩)
    go_ret
    exact ⟨rfl, hb1⟩
  | false =>
    simp only [hok, Bool.false_eq_true, if_false] at h ⊢
    have H := Aside0.mk h
    clear h
    go_enter Tryz.func67, Tryz.ntmps67
    go_wp2_with (go_at_call 68; refine (H.out _).mono ?_; rintro e w1 ⟨rfl, hb1⟩)
    exact ⟨rfl, rfl, hb1⟩
/-- What a field is, as two results. -/
def saidV (o : Option (List UInt8)) : Value := match o with
  | some l => .tuple #[.string (mkS l), .bool true]
  | none => .tuple #[.string ⟨#[]⟩, .bool false]
theorem Octal_any (n : Int) (wd : Nat) (w : World) (hw : wd = 8 ∨ wd = 12) (hn : n ≤ 9223372036854775807) :
    Calls Tryz.prog 48 #[.int .i64 n, .int .i64 (wd : Int)] w fun e w' => e = .returned (saidV (if octOk wd n = true then some (octL wd n.toNat) else none)) ∧ Below w.heap.size w w' := by
  have hmf : ∀ (fn : Fn) (first cap : Array Value) (w : World), (Instr.makeFunc fn first cap).run Tryz.prog w = .ok (.func fn first cap) w := fun _ _ _ _ => rfl
  obtain ⟨g1, g2⟩ := heap_two w (.cells #[.int .i64 n] 3) (.cells #[.int .i64 (wd : Int)] 3)
  have HB := Aside0.mk (below_alloc (below_alloc (Below.refl w.heap.size w) (.cells #[.int .i64 n] 3)) (.cells #[.int .i64 (wd : Int)] 3))
  have h := fun W (hb : Below ((w.alloc (.cells #[.int .i64 n] 3)).alloc (.cells #[.int .i64 (wd : Int)] 3)).heap.size ((w.alloc (.cells #[.int .i64 n] 3)).alloc (.cells #[.int .i64 (wd : Int)] 3)) W) => octal1 w.heap.size (w.heap.size + 1) n wd W (blk_cell ((hb.block _ (blk_lt g1)).trans g1) 0) (blk_cell ((hb.block _ (blk_lt g2)).trans g2) 0) hw hn
  cases hok : octOk wd n with
  | true =>
    simp only [hok, if_true] at h ⊢
    have H := Aside0.mk (tryOctal_ok [.pointer (some ⟨w.heap.size, 0, none⟩), .pointer (some ⟨w.heap.size + 1, 0, none⟩)] _ _ h)
    clear h
    go_enter Tryz.func48, Tryz.ntmps48
    go_wp2_with (go_at_call 64; refine H.out.mono ?_; rintro e w1 ⟨rfl, hb1⟩)
    go_ret2
    exact ⟨rfl, below_next HB.out hb1⟩
  | false =>
    simp only [hok, Bool.false_eq_true, if_false] at h ⊢
    have H := Aside0.mk (tryOctal_bad [.pointer (some ⟨w.heap.size, 0, none⟩), .pointer (some ⟨w.heap.size + 1, 0, none⟩)] _ h)
    clear h
    go_enter Tryz.func48, Tryz.ntmps48
    go_wp2_with (go_at_call 64; refine H.out.mono ?_; rintro e w1 ⟨rfl, hb1⟩)
    go_ret2
    exact ⟨rfl, below_next HB.out hb1⟩
theorem Base_any (n : Int) (wd : Nat) (w : World) (hw : wd = 8 ∨ wd = 12) (hn0 : -9223372036854775808 ≤ n) (hn : n ≤ 9223372036854775807) :
    Calls Tryz.prog 49 #[.int .i64 n, .int .i64 (wd : Int)] w fun e w' => e = .returned (saidV (if baseOk wd n = true then some (baseL wd n) else none)) ∧ Below w.heap.size w w' := by
  have hmf : ∀ (fn : Fn) (first cap : Array Value) (w : World), (Instr.makeFunc fn first cap).run Tryz.prog w = .ok (.func fn first cap) w := fun _ _ _ _ => rfl
  obtain ⟨g1, g2⟩ := heap_two w (.cells #[.int .i64 n] 3) (.cells #[.int .i64 (wd : Int)] 3)
  have HB := Aside0.mk (below_alloc (below_alloc (Below.refl w.heap.size w) (.cells #[.int .i64 n] 3)) (.cells #[.int .i64 (wd : Int)] 3))
  have h := fun W (hb : Below ((w.alloc (.cells #[.int .i64 n] 3)).alloc (.cells #[.int .i64 (wd : Int)] 3)).heap.size ((w.alloc (.cells #[.int .i64 n] 3)).alloc (.cells #[.int .i64 (wd : Int)] 3)) W) => base1 w.heap.size (w.heap.size + 1) n wd W (blk_cell ((hb.block _ (blk_lt g1)).trans g1) 0) (blk_cell ((hb.block _ (blk_lt g2)).trans g2) 0) hw hn0 hn
  cases hok : baseOk wd n with
  | true =>
    simp only [hok, if_true] at h ⊢
    have H := Aside0.mk (tryBase_ok [.pointer (some ⟨w.heap.size, 0, none⟩), .pointer (some ⟨w.heap.size + 1, 0, none⟩)] _ _ h)
    clear h
    go_enter Tryz.func49, Tryz.ntmps49
    go_wp2_with (go_at_call 64; refine H.out.mono ?_; rintro e w1 ⟨rfl, hb1⟩)
    go_ret2
    exact ⟨rfl, below_next HB.out hb1⟩
  | false =>
    simp only [hok, Bool.false_eq_true, if_false] at h ⊢
    have H := Aside0.mk (tryBase_bad [.pointer (some ⟨w.heap.size, 0, none⟩), .pointer (some ⟨w.heap.size + 1, 0, none⟩)] _ h)
    clear h
    go_enter Tryz.func49, Tryz.ntmps49
    go_wp2_with (go_at_call 64; refine H.out.mono ?_; rintro e w1 ⟨rfl, hb1⟩)
    go_ret2
    exact ⟨rfl, below_next HB.out hb1⟩
theorem Field_any (n : Int) (wd : Nat) (w : World) (hw : wd = 8 ∨ wd = 12) (hn0 : -9223372036854775808 ≤ n) (hn : n ≤ 9223372036854775807) :
    Calls Tryz.prog 26 #[.int .i64 n, .int .i64 (wd : Int)] w fun e w' => e = .returned (saidV (fieldT n wd)) ∧ Below w.heap.size w w' := by
  have h1 := fun W => Octal_any n wd W hw hn
  have h2 := fun W => Base_any n wd W hw hn0 hn
  unfold fieldT
  cases hok : octOk wd n with
  | true =>
    simp only [hok, if_true] at h1 ⊢
    have H1 := Aside0.mk h1
    clear h1 h2
    go_enter Tryz.func26, Tryz.ntmps26
    go_wp2_with (go_at_call 48; refine (H1.out _).mono ?_; rintro e w1 ⟨rfl, hb1⟩; simp only [saidV])
    go_ret2
    exact ⟨rfl, hb1⟩
  | false =>
    simp only [hok, Bool.false_eq_true, if_false] at h1 ⊢
    have H1 := Aside0.mk h1
    clear h1
    cases hbk : baseOk wd n with
    | true =>
      simp only [hbk, if_true] at h2 ⊢
      have H2 := Aside0.mk h2
      clear h2
      go_enter Tryz.func26, Tryz.ntmps26
      go_wp2_with (first
        | (go_at_call 48; refine (H1.out _).mono ?_; rintro e w1 ⟨rfl, hb1⟩; simp only [saidV])
        | (go_at_call 49; refine (H2.out _).mono ?_; rintro e w2 ⟨rfl, hb2⟩; simp only [saidV]))
      go_ret2
      exact ⟨rfl, below_next hb1 hb2⟩
    | false =>
      simp only [hbk, Bool.false_eq_true, if_false] at h2 ⊢
      have H2 := Aside0.mk h2
      clear h2
      go_enter Tryz.func26, Tryz.ntmps26
      go_wp2_with (first
        | (go_at_call 48; refine (H1.out _).mono ?_; rintro e w1 ⟨rfl, hb1⟩; simp only [saidV])
        | (go_at_call 49; refine (H2.out _).mono ?_; rintro e w2 ⟨rfl, hb2⟩; simp only [saidV]))
      go_ret2
      exact ⟨rfl, below_next hb1 hb2⟩
end Go.Proofs.YtpmiddhdgidimaaGreatDoor
