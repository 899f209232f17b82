/- head's reader: text, field. -/
import Derived.Test.YtpmiddhdgidimaaGreatDoorHeadTake
import Derived.Test.YtpmiddhdgidimaaGreatDoorNumReadF
import Derived.Test.YtpmiddhdgidimaaGreatDoorHeadGood
import Derived.Test.YtpmiddhdgidimaaGreatDoorNum
set_option linter.unusedVariables false
set_option linter.unusedSimpArgs false
namespace Go.Proofs.YtpmiddhdgidimaaGreatDoor
open Go.RowKit Go.Proofs.YtpmiddhdgidimaaGreatDoorW.PrintWords

theorem cut_ahead : ∀ l : List UInt8, (cutAt 0 l).1 = ahead l
  | [] => rfl
  | c :: l => by
    have ih := cut_ahead l
    unfold ahead at ih ⊢
    unfold cutAt
    rw [List.takeWhile_cons]
    by_cases h : c = 0
    · subst h; rfl
    · rw [if_neg h, show (c != 0) = true from bne_iff_ne.2 h]
      simp [ih]
theorem part_length (s : List UInt8) (a n : Nat) (h : a + n ≤ s.length) : (part s a n).length = n := by
  unfold part; rw [List.length_take, List.length_drop]; omega
theorem cut_zero (l : List UInt8) (w : World) (hG : Good w) (hs : l.length < 4294967281) :
    Calls Tryz.prog 42 #[.string (mkS l), .string ⟨#[0]⟩] w fun e w' => e = .returned (.tuple #[.string (mkS (ahead l)), .string (mkS (cutAt 0 l).2.1), .bool (cutAt 0 l).2.2]) ∧ Below w.heap.size w w' := by
  have h1 := Tryz.strings_Cut_shaped (mkS l) ⟨#[0]⟩ w hG.shaped (by simpa using hs)
  have e : Lib.cut (mkS l).data.toList (⟨#[0]⟩ : ByteArray).data.toList = cutAt 0 l := by rw [data_mkS]; exact cut_one 0 l
  rw [e, cut_ahead] at h1
  exact h1.mono fun e w' ⟨he, n, hw⟩ => ⟨he, hw ▸ below_drewN (Below.refl _ _) n⟩
theorem Rd.below {W W' : World} {p : Nat} {s : List UInt8} {a : Nat} (h : Rd W p s a) (hb : Below W.heap.size W W') : Rd W' p s a := ⟨(hb.block _ (blk_lt h.blk)).trans h.blk⟩
theorem rtext_any (p : Nat) (s : List UInt8) (a n : Nat) (w w0 : World) (hG : Good w0) (hb0 : Below w0.heap.size w0 w) (hp0 : w0.heap.size ≤ p) (hr : Rd w p s a) (h : a + n ≤ s.length) (hs : s.length ≤ 1000) :
    Calls Tryz.prog 18 #[.pointer (some ⟨p, 0, none⟩), .int .i64 (n : Int)] w fun e w' => e = .returned (.string (mkS (ahead (part s a n)))) ∧ Rd w' p s (a + n) ∧ Below p w w' := by
  have HT := Aside0.mk (take_any p s a n w hr h hs)
  have HL := Aside0.mk (show (part s a n).length < 4294967281 by rw [part_length s a n h]; omega)
  have HG := Aside0.mk hG
  have HB := Aside0.mk hb0
  have lp := blk_lt hr.blk
  clear hr hG hb0
  go_enter Tryz.func18, Tryz.ntmps18
  go_wp2_with (first
    | (go_at_call 20; refine HT.out.mono ?_; rintro e w1 ⟨rfl, hr1, hb1⟩; have HR1 := Aside0.mk hr1; have HB1 := Aside0.mk hb1; clear hr1 hb1; have HG1 := Aside0.mk (HG.out.below (HB.out.trans (HB1.out.mono hp0))))
    | (go_at_call 42; refine (cut_zero _ _ HG1.out HL.out).mono ?_; rintro e w2 ⟨rfl, hb2⟩))
  go_ret
  have := HB1.out.size
  exact ⟨rfl, HR1.out.below hb2, HB1.out.trans (hb2.mono (by omega))⟩
theorem rfield_ok (p : Nat) (s : List UInt8) (a n : Nat) (x : Int) (w : World) (hr : Rd w p s a) (h : a + n ≤ s.length) (hs : s.length ≤ 1000) (hn : n = 8 ∨ n = 12) (hx : numAt s a n = some x) :
    Calls Tryz.prog 19 #[.pointer (some ⟨p, 0, none⟩), .int .i64 (n : Int)] w fun e w' => e = .returned (.int .i64 x) ∧ Rd w' p s (a + n) ∧ Below p w w' := by
  have HT := Aside0.mk (take_any p s a n w hr h hs)
  have HF := Aside0.mk (fun W => ReadField_any (part s a n) W (by rw [part_length s a n h]; exact hn))
  unfold numAt at hx
  rw [hx] at HF
  have lp := blk_lt hr.blk
  clear hr hx
  go_enter Tryz.func19, Tryz.ntmps19
  go_wp2_with (first
    | (go_at_call 20; refine HT.out.mono ?_; rintro e w1 ⟨rfl, hr1, hb1⟩; have HR1 := Aside0.mk hr1; have HB1 := Aside0.mk hb1; clear hr1 hb1)
    | (go_at_call 43; refine (HF.out _).mono ?_; rintro e w2 ⟨rfl, hb2⟩; simp only [numV]))
  go_ret
  have := HB1.out.size
  exact ⟨rfl, HR1.out.below hb2, HB1.out.trans (hb2.mono (by omega))⟩
/-- The panic of a reader. -/
def noHead (a : Int) : List PanicEntry := Chain 43 (.agg #[.int .i64 a])
theorem rfield_bad (p : Nat) (s : List UInt8) (a n : Nat) (w : World) (hr : Rd w p s a) (h : a + n ≤ s.length) (hs : s.length ≤ 1000) (hn : n = 8 ∨ n = 12) (hx : numAt s a n = none) :
    Calls Tryz.prog 19 #[.pointer (some ⟨p, 0, none⟩), .int .i64 (n : Int)] w fun e w' => e = .panicked (noHead ((a + n : Nat) : Int)) ∧ Below p w w' := by
  have HT := Aside0.mk (take_any p s a n w hr h hs)
  have HF := Aside0.mk (fun W => ReadField_any (part s a n) W (by rw [part_length s a n h]; exact hn))
  unfold numAt at hx
  rw [hx] at HF
  have lp := blk_lt hr.blk
  clear hr hx
  obtain ⟨b, hb⟩ : ∃ b, a + n = b := ⟨_, rfl⟩
  rw [hb] at HT ⊢
  go_enter Tryz.func19, Tryz.ntmps19
  go_wp2_with (first
    | (go_at_call 20; refine HT.out.mono ?_; rintro e w1 ⟨rfl, hr1, hb1⟩; have HR1 := Aside0.mk hr1; have HB1 := Aside0.mk hb1; clear hr1 hb1)
    | (go_at_call 43; refine (HF.out _).mono ?_; rintro e w2 ⟨rfl, hb2⟩; simp only [numV]; have r2 := (HR1.out.below hb2).blk; have k1 : w2.cell? ⟨p, 1, none⟩ = some (.int .i64 (b : Int)) := blk_cell r2 1; have HB2 := Aside0.mk (HB1.out.trans (hb2.mono (by have := HB1.out.size; omega))); clear r2))
  exact ⟨rfl, rfl, HB2.out⟩
end Go.Proofs.YtpmiddhdgidimaaGreatDoor
