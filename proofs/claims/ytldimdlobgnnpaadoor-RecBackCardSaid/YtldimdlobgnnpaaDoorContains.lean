/- strings.ContainsAny at the two bytes 0 and '=', whatever the string: by the library's own text. -/
import Derived.Test.YtldimdlobgnnpaaDoorBase
import Derived.Test.YtldimdlobgnnpaaDoorShelf
import Derived.Test.YtldimdlobgnnpaaDoorPlain
import Derived.Test.YtldimdlobgnnpaaDoorDecode
import Derived.Lib.OthersKept
import Derived.Shelf.Strings.IndexAnyAll
set_option linter.unusedVariables false
set_option linter.unusedSimpArgs false
namespace Go.Proofs.YtldimdlobgnnpaaDoor
open Go.RowKit Go.Sort Go.Proofs.YtldimdlobgnnpaaDoorW.PrintWords

theorem iter_below (w : World) (s : ByteArray) (p : Nat) : Below w.heap.size w (w.iter s p) := (Below.refl _ _).alloc (Nat.le_refl _) _

set_option maxHeartbeats 2000000 in
set_option maxRecDepth 1000000 in
/-- A rune of 128 or more is none of the two. -/
theorem runeErr_far (w : World) : Calls Tryd.prog 50 #[.string ⟨#[0, 61]⟩, .int .i32 65533] w fun e w' => e = .returned (.int .i64 (-1)) ∧ Below w.heap.size w w' := by
  have n0 := fun ty => run_next_ascii (P := Tryd.prog) w ⟨#[0, 61]⟩ 0 ty (by decide) (by decide)
  have n1 := fun ty => run_next_ascii (P := Tryd.prog) w ⟨#[0, 61]⟩ 1 ty (by decide) (by decide)
  have n2 := fun ty => run_next_end (P := Tryd.prog) w ⟨#[0, 61]⟩ 2 ty (by decide)
  go_enter Tryd.func50, Tryd.ntmps50
  go_wp2
  go_loopg [5, 6] 2 (fun g _ _ wx => ∃ i : Nat, i + g = 2 ∧ wx = w.iter ⟨#[0, 61]⟩ i)
  case atStart => exact ⟨0, rfl, rfl⟩
  case round =>
    obtain ⟨i, hig, rfl⟩ := hrel
    obtain rfl | rfl | rfl : i = 0 ∨ i = 1 ∨ i = 2 := by omega
    · obtain rfl : gk = 2 := by omega
      go_wp2
      go_roundg 1
      case measure => omega
      case rel => exact ⟨1, rfl, rfl⟩
    · obtain rfl : gk = 1 := by omega
      go_wp2
      go_roundg 0
      case measure => omega
      case rel => exact ⟨2, rfl, rfl⟩
    · obtain rfl : gk = 0 := by omega
      go_wp2
      go_ret
      exact ⟨rfl, iter_below _ _ _⟩
set_option maxHeartbeats 2000000 in
set_option maxRecDepth 1000000 in
theorem runeBad_far (r : Int) (w : World) (h0 : 128 ≤ r) (h1 : r ≤ 2147483647) (h2 : r ≠ 65533) (hv : Lib.validRune r = false) : Calls Tryd.prog 50 #[.string ⟨#[0, 61]⟩, .int .i32 r] w fun e w' => e = .returned (.int .i64 (-1)) ∧ Below w.heap.size w w' := by
  have g1 : (r == 65533) = false := by simpa using h2
  have g2 : decide (r < 128) = false := by simpa using h0
  go_enter Tryd.func50, Tryd.ntmps50
  go_wp2_with (go_at_call 65; refine (Tryd.utf8_ValidRune _ _).mono ?_; rintro e w' ⟨rfl, hw⟩; rw [hw, hv])
  go_ret
  exact ⟨rfl, Below.refl _ _⟩
set_option maxHeartbeats 2000000 in
set_option maxRecDepth 1000000 in
theorem runeGood_far (r : Int) (w : World) (h0 : 128 ≤ r) (h1 : r ≤ 2147483647) (h2 : r ≠ 65533) (hv : Lib.validRune r = true) (hv2 : Utf8.valid r = true) : Calls Tryd.prog 50 #[.string ⟨#[0, 61]⟩, .int .i32 r] w fun e w' => e = .returned (.int .i64 (-1)) ∧ Below w.heap.size w w' := by
  have g1 : (r == 65533) = false := by simpa using h2
  have g2 : decide (r < 128) = false := by simpa using h0
  obtain ⟨s1, s2, s3⟩ := encode_facts r hv2 h0
  obtain ⟨t, ht⟩ : ∃ t, Utf8.encode r = t := ⟨_, rfl⟩
  have hcv := fun (W : World) => run_convert_int_string (P := Tryd.prog) W 21 9 .i32 r (by kernel_rfl) Tryd.underlying9
  rw [ht] at s1 s2 s3 hcv
  obtain ⟨b, hb⟩ : ∃ b : UInt8, t[t.size - 1]'(by omega) = b := ⟨_, rfl⟩
  have hb2 : 128 ≤ b.toNat := by rw [← hb]; exact s3 (by omega)
  clear ht s3 hv2
  by_cases hs : t.size = 2
  · have hbl : t[1]'(by omega) = b := by rw [← hb]; congr 1; omega
    have hne : ((61 : Int) == (b.toNat : Int)) = false := by rw [beq_eq_false_iff_ne]; omega
    have hne2 : ((61 : Int) != (b.toNat : Int)) = true := by rw [bne_iff_ne]; omega
    have hsz : (t.size : Int) = 2 := by omega
    clear hb
    go_enter Tryd.func50, Tryd.ntmps50
    go_wp2_with (go_at_call 65; refine (Tryd.utf8_ValidRune _ _).mono ?_; rintro e w' ⟨rfl, hw⟩; rw [hw, hv])
    go_step3
    go_wp2_with fail
    go_loopg [9] 1 (fun g c wx => g = 1 ∧ wx = w ∧ c = .int .i64 1)
    case atStart => exact ⟨rfl, rfl, by simp [hsz]⟩
    case round =>
      obtain ⟨rfl, rfl, rfl⟩ := hrel
      go_wp2_with fail
      go_step3
      have hne3 : (((((⟨#[0, 61]⟩ : ByteArray)[1]'(by decide)).toNat : Int)) != (b.toNat : Int)) = true := hne2
      have hw2 : IntKind.i64.wrap (1 + 1) = 2 := by decide
      have hsl : ∀ W, (Instr.slice 9 (.string ⟨#[0, 61]⟩) (some (.int .i64 2)) none none).run Tryd.prog W = .ok (.string ⟨#[]⟩) W := fun W => by
        rw [run_slice_string_l (P := Tryd.prog) W 9 ⟨#[0, 61]⟩ Tryd.underlying9 .i64 2 (by decide) (by decide)]
        rfl
      have hIB : ∀ (c : Int) (W : World), Calls Tryd.prog 64 #[.string ⟨#[]⟩, .int .u8 c] W fun e w' => e = .returned (.int .i64 (-1)) ∧ w' = W := fun c W => Tryd.strings_IndexByte ⟨#[]⟩ c W
      go_wp2_with fail
      go_quiet (fail)
      go_wp2_with fail
      go_quiet ((go_at_call 64; exact quiet_add_same (hIB _ _)))
      go_wp2_with fail
      simp only [Exit.noGoto_ret]
      go_simp
      go_ret
      exact ⟨rfl, below_drewN (Below.refl _ _) _⟩
  · have hs3 : (3 : Int) ≤ (t.size : Int) := by omega
    have hs4 : (t.size : Int) ≤ 4 := by omega
    clear hb
    go_enter Tryd.func50, Tryd.ntmps50
    go_wp2_with (go_at_call 65; refine (Tryd.utf8_ValidRune _ _).mono ?_; rintro e w' ⟨rfl, hw⟩; rw [hw, hv])
    go_step3
    go_wp2_with fail
    go_loopg [9] 1 (fun g c wx => wx = w ∧ c = .int .i64 ((t.size : Int) - 1))
    case atStart => exact ⟨rfl, rfl⟩
    case round =>
      obtain ⟨rfl, rfl⟩ := hrel
      go_wp2_with fail
      rw [Exit.noGoto_ret]
      go_ret
      exact ⟨rfl, Below.refl _ _⟩
/-- A rune of 128 or more is none of the two. -/
theorem rune_far (r : Int) (w : World) (h0 : 128 ≤ r) (h1 : r ≤ 2147483647) : Calls Tryd.prog 50 #[.string ⟨#[0, 61]⟩, .int .i32 r] w fun e w' => e = .returned (.int .i64 (-1)) ∧ Below w.heap.size w w' := by
  by_cases h2 : r = 65533
  · subst h2; exact runeErr_far w
  · cases hv : Lib.validRune r with
    | false => exact runeBad_far r w h0 h1 h2 hv
    | true =>
      refine runeGood_far r w h0 h1 h2 hv ?_
      rw [validRune_eq]
      simp only [Lib.validRune, validRune, decide_eq_true_eq] at hv ⊢
      omega

def setL : List UInt8 := [0, 61]
set_option maxHeartbeats 2000000 in
set_option maxRecDepth 1000000 in
theorem indexAny_short (s : ByteArray) (w : World) (h8 : s.size ≤ 8) :
    Calls Tryd.prog 36 #[.string s, .string ⟨#[0, 61]⟩] w fun e w' => e = .returned (.int .i64 (Lib.indexAny s.data.toList setL)) ∧ Below w.heap.size w w' := by
  have h8z : decide ((8 : Int) < (s.size : Int)) = false := decide_eq_false (by omega)
  have h8y : (s.size : Int) ≤ 8 := by omega
  go_enter Tryd.func36, Tryd.ntmps36
  go_wp2_with (go_at_call 51; refine (Tryd.strings_shouldUseASCIISet _ _).mono ?_; rintro e w' ⟨rfl, hw⟩; rw [hw, h8z])
  go_loopg [9, 10] s.size (fun g _ _ wx => ∃ i : Nat, i ≤ s.size ∧ s.size - i = g ∧ wx.heap[w.heap.size]? = some (.stringIter s i) ∧ Aside0 (Lib.NoAny s.data.toList setL i) ∧ Aside0 (Below w.heap.size w wx))
  case atStart => exact ⟨0, by omega, by omega, World.iter_heap _ _ _, ⟨Lib.NoAny.zero _ _⟩, ⟨iter_below _ _ _⟩⟩
  case round =>
    obtain ⟨i, hi, hig, hk, HN, HB⟩ := hrel
    by_cases hlt : i < s.size
    · have hnx := fun ty => Lib.run_next_any_at (P := Tryd.prog) wr w.heap.size s i ty hk hlt
      have hk2 := Lib.iterAt_heap wr w.heap.size s i (i + (Utf8.decode s i).2) hk
      have hb2 := Aside0.mk (Lib.below_iterAt HB.out (Nat.le_refl _) s (i + (Utf8.decode s i).2))
      by_cases ha : (s[i]'hlt).toNat < 128
      · have hde := decode_ascii s i hlt ha
        rw [hde] at hnx hk2 hb2
        clear hde
        obtain ⟨x, hx⟩ : ∃ x : UInt8, s[i]'hlt = x := ⟨_, rfl⟩
        have Hx := Aside0.mk (show s.data.toList[i]? = some x by rw [← hx]; exact Lib.data_getElem? s i hlt)
        rw [hx] at ha hnx
        clear hx
        have hcon := Lib.contains_iff_indexByte setL x
        have hback : ((x.toNat : Int)).toNat.toUInt8 = x := by simp
        have hC : ∀ W, Calls Tryd.prog 50 #[.string ⟨#[0, 61]⟩, .int .i32 (x.toNat : Int)] W fun e w' => e = .returned (.int .i64 (Lib.indexByte setL x)) ∧ w' = W := fun W => by
          have := Tryd.strings_IndexRune_ascii ⟨#[0, 61]⟩ (x.toNat : Int) W (by omega) (by omega)
          rw [hback] at this
          exact this
        have hxa : (x.toNat : Int) < 128 := by omega
        obtain ⟨q, hq⟩ : ∃ q, Lib.indexByte setL x = q := ⟨_, rfl⟩
        rw [hq] at hcon hC
        have HC := Aside0.mk hC
        clear hC hback hq
        cases hin : setL.contains x
        · rw [hin] at hcon
          have hqn : q < 0 := by have := of_decide_eq_false hcon.symm; omega
          have HIN := Aside0.mk hin
          clear hcon hin
          go_wp2_with (go_at_call 50; refine (HC.out _).mono ?_; rintro e w1 ⟨rfl, rfl⟩)
          go_roundg (s.size - (i + 1))
          case measure => omega
          case rel => exact ⟨i + 1, by omega, rfl, hk2, ⟨HN.out.succ Hx.out HIN.out⟩, hb2⟩
        · rw [hin] at hcon
          have hqn : 0 ≤ q := of_decide_eq_true hcon.symm
          have HIN := Aside0.mk hin
          clear hcon hin
          go_wp2_with (go_at_call 50; refine (HC.out _).mono ?_; rintro e w1 ⟨rfl, rfl⟩)
          go_ret
          exact ⟨by rw [Lib.indexAny_hit HN.out Hx.out HIN.out]; rfl, hb2.out⟩
      · obtain ⟨hd1, hd2⟩ := decode_high s i hlt (by omega)
        have hd3 := decode_le s i
        obtain ⟨ho1, ho2⟩ := decode_over s i hlt (by omega)
        have HN2 := Aside0.mk (noAny_over HN.out ho1 (by decide) ho2)
        generalize (Utf8.decode s i).1 = r at *
        generalize (Utf8.decode s i).2 = d at *
        have hr1 : (128 : Int) ≤ (r : Int) := by omega
        have hr2 : (r : Int) ≤ 2147483647 := by omega
        clear ho2
        go_wp2_with (go_at_call 50; refine (rune_far _ _ hr1 hr2).mono ?_; rintro e w1 ⟨rfl, hb1⟩)
        go_roundg (s.size - (i + d))
        case measure => omega
        case rel => exact ⟨i + d, ho1, by omega, (hb1.block _ (Array.getElem?_eq_some_iff.1 hk2).1).trans hk2, HN2, ⟨below_next hb2.out hb1⟩⟩
    · obtain rfl : i = s.size := by omega
      have hnx := fun ty => Lib.run_next_end_at (P := Tryd.prog) wr w.heap.size s s.size ty hk (by omega)
      go_wp2_with fail
      go_ret
      exact ⟨by rw [Lib.indexAny_none (by rw [← Lib.size_eq]; exact HN.out)]; rfl, HB.out⟩
theorem set_zero (P : Program) (t : TypeId) (h : (P.info? t).map (fun i => (i.zero, i.size)) = some (some (.agg (Array.replicate 256 (.bool false))), 256)) : (∀ w, (zeroValue t).run P w = .ok (.agg (Array.replicate 256 (.bool false))) w) ∧ (P.info? t).map (·.size) = some 256 := zero_of_info h
set_option maxHeartbeats 1000000 in
/-- strings.IndexAny at the two bytes: whatever the string. -/
theorem indexAny_any (s : ByteArray) (w : World) (hs : s.size < 4294967281) :
    Calls Tryd.prog 36 #[.string s, .string ⟨#[0, 61]⟩] w fun e w' => e = .returned (.int .i64 (Lib.indexAny s.data.toList setL)) ∧ Below w.heap.size w w' := by
  by_cases h8 : s.size ≤ 8
  · exact indexAny_short s w h8
  · have hz := set_zero Tryd.prog 75 (by kernel_rfl)
    refine (Tryd.strings_IndexAny_long hz.1 s ⟨#[0, 61]⟩ w (by decide) (by omega) hs (by decide) (fun j b hb => ?_)).mono fun e w' ⟨h1, h2⟩ => ⟨h1, ?_⟩
    · have : j = 0 ∨ j = 1 := by have := (List.getElem?_eq_some_iff.1 hb).1; simp at this; omega
      rcases this with rfl | rfl <;> simp at hb <;> subst hb <;> decide
    · rw [h2]
      exact ((Below.refl _ _).alloc (Nat.le_refl _) _).alloc (by simp) _
/-- Whether a text holds one of the two bytes. -/
def hasTwo (l : List UInt8) : Bool := l.contains 0 || l.contains 61
theorem indexAny_two : ∀ l : List UInt8, decide (0 ≤ Lib.indexAny l setL) = hasTwo l
  | [] => rfl
  | b :: l => by
    have ih := indexAny_two l
    have hge := Lib.indexAny_ge setL l
    unfold Lib.indexAny
    by_cases hb : setL.contains b = true
    · rw [if_pos hb]
      have : b = 0 ∨ b = 61 := by simpa [setL] using hb
      rcases this with rfl | rfl <;> simp [hasTwo]
    · rw [if_neg hb]
      have h2 : b ≠ 0 ∧ b ≠ 61 := by simpa [setL] using hb
      have e : hasTwo (b :: l) = hasTwo l := by
        unfold hasTwo
        rw [List.contains_cons, List.contains_cons]
        have e1 : ((0 : UInt8) == b) = false := by rw [beq_eq_false_iff_ne]; exact fun h => h2.1 h.symm
        have e2 : ((61 : UInt8) == b) = false := by rw [beq_eq_false_iff_ne]; exact fun h => h2.2 h.symm
        rw [e1, e2, Bool.false_or, Bool.false_or]
      rw [e, ← ih]
      by_cases hm : Lib.indexAny l setL = -1
      · rw [hm]; simp
      · rw [if_neg (by simpa using hm)]
        exact decide_eq_decide.2 (by omega)
set_option maxHeartbeats 1000000 in
/-- strings.ContainsAny at the two bytes: whatever the string. -/
theorem containsAny_any (l : List UInt8) (w : World) (hs : l.length < 4294967281) :
    Calls Tryd.prog 25 #[.string (mkS l), .string ⟨#[0, 61]⟩] w fun e w' => e = .returned (.bool (hasTwo l)) ∧ Below w.heap.size w w' := by
  have h := indexAny_any (mkS l) w (by simpa using hs)
  have h2 := indexAny_two l
  rw [data_mkS] at h
  obtain ⟨q, hq⟩ : ∃ q, Lib.indexAny l setL = q := ⟨_, rfl⟩
  rw [hq] at h h2
  have H := Aside0.mk h
  have H2 := Aside0.mk h2
  clear h h2 hq
  go_enter Tryd.func25, Tryd.ntmps25
  go_wp2_with (go_at_call 36; refine H.out.mono ?_; rintro e w1 ⟨rfl, hb1⟩)
  go_ret
  exact ⟨by rw [← H2.out]; rfl, hb1⟩
end Go.Proofs.YtldimdlobgnnpaaDoor
