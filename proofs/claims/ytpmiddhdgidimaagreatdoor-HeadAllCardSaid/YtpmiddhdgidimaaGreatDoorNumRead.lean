/- num: ReadOctal, ReadBase, ReadField. -/
import Derived.Test.YtpmiddhdgidimaaGreatDoorNumTop
set_option linter.unusedVariables false
set_option linter.unusedSimpArgs false
namespace Go.Proofs.YtpmiddhdgidimaaGreatDoor
open Go.RowKit Go.Proofs.YtpmiddhdgidimaaGreatDoorW.PrintWords

theorem or_join (i : Nat) (x y : Int) (h : i = 3 ∨ i = 8) (hx : x % ((2 ^ i : Nat) : Int) = 0) (h0 : 0 ≤ y) (h1 : y < ((2 ^ i : Nat) : Int)) : Go.bits .or .i64 x y = IntKind.i64.wrap (x + y) := by
  show IntKind.i64.wrap ((BitVec.ofInt 64 x ||| BitVec.ofInt 64 y).toNat : Int) = _
  rw [BitVec.toNat_or, BitVec.toNat_ofInt, BitVec.toNat_ofInt]
  have e64 : ((2 ^ 64 : Nat) : Int) = 18446744073709551616 := by decide
  rw [e64]
  obtain ⟨X, hX⟩ : ∃ X : Nat, (x % 18446744073709551616).toNat = X := ⟨_, rfl⟩
  obtain ⟨Y, hY⟩ : ∃ Y : Nat, (y % 18446744073709551616).toNat = Y := ⟨_, rfl⟩
  rw [hX, hY]
  have hYy : (Y : Int) = y := by rcases h with rfl | rfl <;> (have : ((2 ^ 3 : Nat) : Int) = 8 := by decide) <;> (have : ((2 ^ 8 : Nat) : Int) = 256 := by decide) <;> omega
  have hXx : (X : Int) = x % 18446744073709551616 := by omega
  have hor : X ||| Y = X + Y := by
    have hd : X = 2 ^ i * (X / 2 ^ i) := by
      have h8 : (2 : Nat) ^ 8 = 256 := by decide
      have h3 : (2 : Nat) ^ 3 = 8 := by decide
      rcases h with rfl | rfl
      · rw [h3] at hx ⊢; omega
      · rw [h8] at hx ⊢; omega
    rw [hd, ← Nat.two_pow_add_eq_or_of_lt (by omega)]
  rw [hor, IntKind.wrap_i64, IntKind.wrap_i64]
  omega
theorem calls_panic_stopB {P : Program} {f : FuncId} {args : Array Value} {w wd : World} {v : Value} {c : List PanicEntry} {R : Ending → World → Prop}
    (hc : Calls P f args w fun e w' => e = .panicked c ∧ Below w.heap.size w w') (h1 : ∀ w', Below w.heap.size w w' → R (.panicked c) w') (_h2 : Never → R (.returned v) wd) : Calls P f args w R :=
  hc.mono fun _ w' ⟨he, hw⟩ => by subst he; exact h1 w' hw
/-- What a reading's closure answers. -/
def ReadDone (o : Option Int) (e : Ending) : Prop := match o with | some n => e = .returned (.int .i64 n) | none => e = .panicked noFieldC
theorem trimZero_any (l : List UInt8) (w : World) (hl : l.length ≤ 1000000) :
    Calls Tryz.prog 81 #[.string (mkS l), .string ⟨#[0]⟩] w fun e w' => e = .returned (.string (mkS (cutZero l))) ∧ w' = w := by
  have h1 := Tryz.strings_TrimSuffix (mkS l) ⟨#[0]⟩ w (by simp; omega)
  rw [data_mkS] at h1
  exact h1
theorem cutZero_le (l : List UInt8) : (cutZero l).length ≤ l.length := by
  unfold cutZero
  split
  · rw [List.length_take]; omega
  · omega
set_option maxHeartbeats 1000000 in
set_option maxRecDepth 100000 in
theorem readOctal1 (p : Nat) (s : List UInt8) (w : World) (hp : w.cell? ⟨p, 0, none⟩ = some (.string (mkS s))) (hs : s.length = 8 ∨ s.length = 12) :
    Calls Tryz.prog 80 #[.pointer (some ⟨p, 0, none⟩)] w fun e w' => ReadDone (readOctT s) e ∧ Below w.heap.size w w' := by
  obtain ⟨t, ht⟩ : ∃ t, cutZero s = t := ⟨_, rfl⟩
  have htl := cutZero_le s
  rw [ht] at htl
  obtain ⟨W0, cap, hcv, hb0, hz0, hY⟩ := conv_world (P := Tryz.prog) w 9 40 5 (mkS t) Tryz.underlying9 Tryz.underlying40 Tryz.underlying5
  rw [data_mkS] at hY
  rw [size_mkS] at hcv
  have HT := Aside0.mk ht
  have HY := Aside0.mk hY
  clear ht hY
  go_enter Tryz.func80, Tryz.ntmps80
  go_wp2_with (go_at_call 81; refine (trimZero_any s _ (by omega)).mono ?_; rintro e w1 ⟨rfl, hw1⟩; rw [hw1, HT.out]; clear hw1)
  have h12 : t.length ≤ 12 := by omega
  obtain ⟨g, hg⟩ : ∃ g, w.heap.size = g := ⟨_, rfl⟩
  rw [hg] at HY ⊢
  go_loopw [2, 9] (fun nv iv wr => ∃ (k X : Nat), k ≤ t.length ∧ iv = .int .i64 k ∧ nv = .int .i64 (X : Int) ∧ Aside0 (X = foldO (t.take k)) ∧ wr = W0) (fun _ iv _ => t.length - (intOf iv).toNat)
  case atStart => exact ⟨0, 0, Nat.zero_le _, rfl, rfl, ⟨rfl⟩, rfl⟩
  case round =>
    obtain ⟨k, X, hk, rfl, rfl, HX, rfl⟩ := hrel
    have hXb : X < 68719476736 := by
      have h1 := foldO_lt k (t.take k) (by rw [List.length_take]; omega)
      have h2 : 8 ^ k ≤ 8 ^ 12 := Nat.pow_le_pow_right (by decide) (by omega)
      have h3 : (8 : Nat) ^ 12 = 68719476736 := by decide
      rw [HX.out]; omega
    by_cases hlt : k < t.length
    · have u0 := HY.out.cell k hlt
      obtain ⟨q, hq⟩ : ∃ q : Nat, (t.getD k 0).toNat = q := ⟨_, rfl⟩
      have hq2 : q < 256 := by rw [← hq]; exact UInt8.toNat_lt _
      rw [hq] at u0
      obtain ⟨d, hd⟩ : ∃ d : Nat, (q + 208) % 8 = d := ⟨_, rfl⟩
      have hand : Go.bits .and .i64 (((q : Int) - 48) % 256) 7 = (d : Int) := by rw [and7w _ (by omega) (by omega)]; omega
      have hor : Go.bits .or .i64 ((X : Int) * 8) (d : Int) = ((X * 8 + d : Nat) : Int) := by
        rw [or_join 3 _ _ (.inl rfl) (by omega) (by omega) (by omega), IntKind.wrap_i64]; omega
      have HQ := Aside0.mk hq
      have HD := Aside0.mk hd
      clear hq hd
      go_wp2_with fail
      go_roundw
      case measure => simp [intOf]; omega
      case rel =>
        refine ⟨k + 1, X * 8 + d, by omega, by go_num, rfl, ⟨?_⟩, trivial⟩
        rw [List.take_succ_eq_append_getElem hlt, foldO_snoc, ← HX.out, ← HD.out, ← HQ.out, List.getD_eq_getElem?_getD, List.getElem?_eq_getElem hlt]
        rfl
    · obtain rfl : k = t.length := by omega
      rw [List.take_length] at HX
      have hv : readOV s = X := by unfold readOV; rw [HT.out, HX.out]
      have hoct := octal_is (X : Int) s.length hs (by omega)
      rw [Int.toNat_natCast] at hoct
      have hpw : wr.cell? ⟨p, 0, none⟩ = some (.string (mkS s)) := (hb0.cell (lt_of_cell hp)).trans hp
      have hT : readOctT s = if octOk s.length (X : Int) = true ∧ octL s.length X = s then some (X : Int) else none := by unfold readOctT; rw [hv]
      have HR0 := Aside0.mk (Below.refl wr.heap.size wr)
      have KP := Aside0.mk (fun W (hb : Below wr.heap.size wr W) => show W.cell? ⟨p, 0, none⟩ = some (.string (mkS s)) ∧ Aside0 (Below wr.heap.size wr W) from ⟨(hb.cell (lt_of_cell hpw)).trans hpw, ⟨hb⟩⟩)
      cases hok : octOk s.length (X : Int) with
      | false =>
        simp only [hok, Bool.false_eq_true, if_false, false_and] at hoct hT
        have H := Aside0.mk hoct
        have HR := Aside0.mk hT
        clear hoct hT
        go_wp2_with fail
        go_region_held (fun W => W.cell? ⟨p, 0, none⟩ = some (.string (mkS s)) ∧ Aside0 (Below wr.heap.size wr W))
          (first
            | exact KP.out _ (below_drew HR0.out)
            | exact KP.out _ hbq
            | exact hF.out.elim)
          ((go_split_ands
            have hbw := Aside0.out (by assumption : Aside0 (Below wr.heap.size wr _))
            first
            | (go_at_call 66; refine calls_panic_stopB (v := .string (mkS s)) (wd := wr) (H.out _) (fun wx hbx => ?_) (fun hF => ?_)
               · exact ⟨rfl, by rw [HR.out]; rfl, below_next hb0 (below_next hbw hbx)⟩)
            | (go_at_call 82; refine (must_true _).mono ?_; rintro e wp ⟨rfl, rfl⟩)))
        all_goals exact hF.out.elim
      | true =>
        simp only [hok, if_true, true_and] at hoct hT
        obtain ⟨o, ho⟩ : ∃ o, octL s.length X = o := ⟨_, rfl⟩
        rw [ho] at hoct hT
        have H := Aside0.mk hoct
        clear hoct ho
        by_cases he : o = s
        · subst he
          rw [if_pos rfl] at hT
          have HR := Aside0.mk hT
          clear hT
          go_wp2_with fail
          go_region_held3 (fun W => W.cell? ⟨p, 0, none⟩ = some (.string (mkS o)) ∧ Aside0 (Below wr.heap.size wr W))
            (first
              | exact KP.out _ (below_drew HR0.out)
              | exact KP.out _ hbq)
            ((go_split_ands
              have hbw := Aside0.out (by assumption : Aside0 (Below wr.heap.size wr _))
              first
              | (go_at_call 66; refine (H.out _).mono ?_; rintro e wp ⟨rfl, hbp⟩; have hbq := below_next hbw hbp)
              | (go_at_call 82; refine (must_true _).mono ?_; rintro e wp ⟨rfl, rfl⟩; have hbq := hbw)))
          all_goals
            go_wp2_with fail
            go_ret
            refine ⟨?_, below_next hb0 hbq⟩
            rw [HR.out]
            rfl
        · rw [if_neg he] at hT
          have HR := Aside0.mk hT
          have he2 : (o == s) = false := by simpa using he
          clear he hT
          go_wp2_with fail
          go_region_held (fun W => W.cell? ⟨p, 0, none⟩ = some (.string (mkS s)) ∧ Aside0 (Below wr.heap.size wr W))
            (first
              | exact KP.out _ (below_drew HR0.out)
              | exact KP.out _ hbq
              | exact hF.out.elim)
            ((go_split_ands
              have hbw := Aside0.out (by assumption : Aside0 (Below wr.heap.size wr _))
              first
              | (go_at_call 66; refine (H.out _).mono ?_; rintro e wp ⟨rfl, hbp⟩; have hbq := below_next hbw hbp)
              | (go_at_call 82; refine calls_panic_stop (v := .tuple #[]) (wd := wr) (must_false _) ?_ (fun hF => ?_)
                 · exact ⟨rfl, by rw [HR.out]; rfl, below_next hb0 hbw⟩)))
          all_goals exact hF.out.elim
end Go.Proofs.YtpmiddhdgidimaaGreatDoor
