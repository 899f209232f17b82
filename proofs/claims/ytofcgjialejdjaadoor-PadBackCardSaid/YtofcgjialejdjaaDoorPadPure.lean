/- Plain laws of layer 8: what the printed functions answer. No memory in sight. -/
import Derived.Test.YtofcgjialejdjaaDoorPPadx2
import Derived.Test.YtofcgjialejdjaaDoorPPadx3
import Derived.Test.YtofcgjialejdjaaDoorPlain
set_option linter.unusedVariables false
set_option linter.unusedSimpArgs false
namespace Go.Proofs.YtofcgjialejdjaaDoor.Pure
open Go.RowKit Go.Proofs.YtofcgjialejdjaaDoor.PPad Go.Proofs.YtofcgjialejdjaaDoorW.PrintWords Go.Proofs.YtofcgjialejdjaaDoorW.PrintLast

/-- How many bytes 0 stand behind n bytes. -/
def gap (n : Nat) : Nat := (padSize n - n).toNat
theorem padSize_nat (n : Nat) (h : n ≤ 4611686018427387904) : padSize n = ((n + gap n : Nat) : Int) := by
  have := padSize_bd n (by omega) (by omega)
  unfold gap; omega
theorem gap_le (n : Nat) (h : n ≤ 4611686018427387904) : gap n ≤ 511 := by
  have := padSize_bd n (by omega) (by omega)
  unfold gap; omega

theorem repeat_zero (k : Nat) (h : k ≤ 140737488355328) : strings_Repeat.f ⟨#[0]⟩ (k : Int) = some (mkS (List.replicate k 0)) := by
  unfold strings_Repeat.f
  have hs : (⟨#[0]⟩ : ByteArray).size = 1 := rfl
  rw [if_pos ⟨by omega, by rw [hs]; simp; omega, by omega⟩, Int.toNat_natCast]
  show some (mkS (Lib.repeatL [0] k)) = _
  rw [repeatL_one_byte]

theorem put_eq (l : List UInt8) (h : l.length ≤ 140737488351232) : pad_Put.f (mkS l) = some (mkS (l ++ List.replicate (gap l.length) 0)) := by
  have hg := gap_le l.length (by omega)
  have hz := padSize_nat l.length (by omega)
  unfold pad_Put.f pad_Size.f
  simp only [Option.bind_some, size_mkS]
  rw [hz, show ((l.length + gap l.length : Nat) : Int) - (l.length : Int) = (gap l.length : Nat) from by omega, w64 (by omega), repeat_zero _ (by omega)]
  simp only [Option.bind_some, size_mkS, List.length_replicate]
  rw [if_pos (by omega), append_mkS]

theorem filled_eq (l : List UInt8) (n : Nat) (h : l.length + n ≤ 140737488355328) : gripsackref1_filled.f (mkS l) ((l.length + n : Nat) : Int) = some (mkS (l ++ List.replicate n 0)) := by
  unfold gripsackref1_filled.f
  rw [size_mkS, show ((l.length + n : Nat) : Int) - (l.length : Int) = (n : Nat) from by omega, w64 (by omega)]
  rw [if_pos (by omega), Int.toNat_natCast, if_pos (by omega)]
  simp only [Option.bind_some]
  have e : strOfNums (List.replicate n 0) = mkS (List.replicate n 0) := by
    unfold strOfNums mkS; rw [List.map_replicate]; rfl
  rw [e, size_mkS, List.length_replicate, if_pos (by omega), append_mkS]

theorem refpad_eq (l : List UInt8) (h : l.length ≤ 140737488351232) : gripsackref1_Pad.f (mkS l) = some (mkS (l ++ List.replicate (gap l.length) 0)) := by
  have hg := gap_le l.length (by omega)
  unfold gripsackref1_Pad.f gripsackref1_Size.f
  simp only [Option.bind_some, size_mkS]
  rw [padSize_nat l.length (by omega), filled_eq l _ (by omega)]; rfl

theorem gap_three : gap 3 = 509 := by decide

/-- Get, where what is asked for stands there and what fills it is bytes 0. -/
theorem get_ok (a b c : List UInt8) (g : Nat) (hg : g = gap b.length) (h : a.length + b.length + g + c.length ≤ 140737488355328) :
    pad_Get.f (mkS (a ++ (b ++ List.replicate g 0) ++ c)) (a.length : Int) (b.length : Int) = some (mkS b, ((a.length + b.length + g : Nat) : Int), 0) := by
  subst hg
  have hz := padSize_nat b.length (by omega)
  unfold pad_Get.f
  rw [hz]
  rw [if_neg (by simp; omega), if_neg (by simp; omega), if_neg (by simp; omega)]
  rw [extract_mkS, extract_mkS, data_mkS]
  have e1 : (((a ++ (b ++ List.replicate (gap b.length) 0) ++ c).drop (a.length : Int).toNat).take (((a.length : Int) + ((b.length + gap b.length : Nat) : Int)).toNat - (a.length : Int).toNat)) = b ++ List.replicate (gap b.length) 0 := by
    rw [Int.toNat_natCast, List.append_assoc, List.drop_left, show ((a.length : Int) + ((b.length + gap b.length : Nat) : Int)).toNat - a.length = (b ++ List.replicate (gap b.length) (0 : UInt8)).length by simp; omega, List.take_left]
  have e2 : (((a ++ (b ++ List.replicate (gap b.length) 0) ++ c).drop (a.length : Int).toNat).take (((a.length : Int) + (b.length : Int)).toNat - (a.length : Int).toNat)) = b := by
    rw [Int.toNat_natCast, List.append_assoc, List.drop_left, List.append_assoc, show ((a.length : Int) + (b.length : Int)).toNat - a.length = b.length by omega, List.take_left]
  rw [e1, e2, Int.toNat_natCast, List.drop_left, if_pos ((trimB_nil _ _).2 fun x hx => List.eq_of_mem_replicate hx)]
  simp; omega

theorem put_abc : ∃ X, pad_Put.f (⟨#[97, 98, 99]⟩ : ByteArray) = some X ∧ pad_Get.f X 0 3 = some (mkS [97, 98, 99], 512, 0) := by
  have h1 := put_eq [97, 98, 99] (by decide)
  rw [show ([97, 98, 99] : List UInt8).length = 3 from rfl, gap_three] at h1
  have h2 := get_ok [] [97, 98, 99] [] 509 (by decide) (by decide)
  simp only [List.nil_append, List.append_nil, List.length_nil] at h2
  rw [show ((0 : Nat) : Int) = 0 from rfl, show (([97, 98, 99] : List UInt8).length : Int) = 3 from rfl] at h2
  exact ⟨_, h1, h2⟩
theorem awake_true : gripsacklaw8_awake.f = some true := by
  obtain ⟨X, h1, h2⟩ := put_abc
  unfold gripsacklaw8_awake.f
  rw [h1]
  simp only [Option.bind_some]
  rw [h2]
  simp only [Option.bind_some, pad_Size.f, gripsacklaw1_Err.f, toList_mkS]
  rw [if_pos (by decide), if_pos trivial, if_pos (by decide)]
  rfl

theorem PadSizes : gripsacklaw8_PadSizes.Pure := by
  intro n b hn hb
  have h1 := wf_u32 hn
  have hz := padSize_bd n (by omega) (by omega)
  have e0 : wrap64 n = n := w64 (by omega)
  have e1 : wrap64 (n + 512) = n + 512 := w64 (by omega)
  have hm : padSize n % 512 = 0 := by unfold padSize; omega
  have e2 : (padSize n).tmod 512 = 0 := by rw [Int.tmod_eq_emod_of_nonneg (by omega)]; exact hm
  have e3 : padSize (mn b 0) = 0 := by unfold padSize mn; split <;> omega
  have e4 : padSize (padSize n) = padSize n := by
    have : ∀ k : Int, 0 ≤ k → k ≤ 4611686018427387904 → k % 512 = 0 → padSize k = k := by intro k _ _ _; unfold padSize; omega
    exact this _ (by omega) (by omega) hm
  have e5 : padSize 4611686018427387904 = 4611686018427387904 := by decide
  have e6 : padSize (mx b 4611686018427387904) = 4611686018427387904 := by unfold padSize mx; split <;> omega
  unfold gripsacklaw8_PadSizes.f
  simp only [pad_Size.f, Option.bind_some, e0, e1, e2, e3, e4, e5, e6, if_true, awake_true]
  rw [if_pos (by omega), if_pos (by omega)]

/-- The reference's loop: are all bytes from i up to the end of the blocks 0? -/
theorem ref_loop (l : List UInt8) (a n : Int) (h0 : 0 ≤ a) (h1 : 0 ≤ n) (hn : n ≤ 4611686018427387904) (h2 : a + padSize n ≤ l.length) (hl : l.length ≤ 140737488355328) (d : Nat) :
    ∀ (k : Nat) (i : Int), a + n ≤ i → i ≤ a + padSize n → a + padSize n - i = d → d < k →
    gripsackref1_GetPad.l0 k (mkS l) a n i = if ∀ x ∈ (l.drop i.toNat).take d, x = 0 then some ((mkS l).extract a.toNat (a + n).toNat, a + padSize n, 0) else some (⟨#[]⟩, 0, 4) := by
  have hz := padSize_bd n h1 hn
  induction d with
  | zero =>
    intro k i hi1 hi2 hd hk
    obtain ⟨k, rfl⟩ : ∃ m, k = m + 1 := ⟨k - 1, by omega⟩
    simp only [gripsackref1_GetPad.l0, gripsackref1_Size.f, Option.bind_some]
    rw [w64 (x := a + padSize n) (by omega), w64 (x := a + n) (by omega), if_neg (by omega), if_pos h0, if_pos (by omega), if_pos (by simp; omega)]
    simp
  | succ d ih =>
    intro k i hi1 hi2 hd hk
    obtain ⟨k, rfl⟩ : ∃ m, k = m + 1 := ⟨k - 1, by omega⟩
    obtain ⟨j, rfl⟩ := Int.eq_ofNat_of_zero_le (show 0 ≤ i by omega)
    have hj : j < l.length := by omega
    have hb : bt (mkS l) (j : Int) = (l[j].toNat : Int) := by
      rw [bt_mkS, Int.toNat_natCast, List.getD_eq_getElem?_getD, List.getElem?_eq_getElem hj]; rfl
    have hdrop : (l.drop (j : Int).toNat).take (d + 1) = l[j] :: (l.drop (j + 1)).take d := by
      rw [Int.toNat_natCast, List.drop_eq_getElem_cons hj]; rfl
    simp only [gripsackref1_GetPad.l0, gripsackref1_Size.f, Option.bind_some]
    rw [w64 (x := a + padSize n) (by omega), if_pos (by omega), if_pos (by omega), if_pos (by simp; omega), hb, hdrop]
    by_cases hc : l[j] = 0
    · rw [if_pos (by rw [hc]; rfl), w64 (by omega), ih k _ (by omega) (by omega) (by omega) (by omega)]
      rw [show ((j : Int) + 1).toNat = j + 1 by omega]
      simp [hc]
    · rw [if_neg (fun h => hc (UInt8.toNat_inj.1 (by simpa using h))), if_neg (fun h => hc (h _ (by simp)))]

/-- Get and the reference's Get agree. -/
theorem get_ref (l : List UInt8) (a n : Int) (hl : l.length ≤ 3000) (ha : -9223372036854775808 ≤ a ∧ a ≤ 9223372036854775807) (hn : -9223372036854775808 ≤ n ∧ n ≤ 9223372036854775807) :
    ∃ r : ByteArray × Int × Int, pad_Get.f (mkS l) a n = some r ∧ ∃ k, gripsackref1_GetPad.f k (mkS l) a n = some r := by
  unfold pad_Get.f
  rw [if_neg (by simp; omega), size_mkS]
  by_cases hc : a < 0 ∨ (l.length : Int) < a ∨ n < 0 ∨ 4611686018427387904 < n
  · rw [if_pos hc]
    refine ⟨_, rfl, 1, ?_⟩
    unfold gripsackref1_GetPad.f
    simp only [gripsackref1_GetPad.j0, size_mkS]
    by_cases h1 : a < 0
    · rw [if_pos h1, if_pos trivial]
    rw [if_neg h1]
    by_cases h2 : (l.length : Int) < a
    · rw [if_pos h2, if_pos trivial]
    rw [if_neg h2]
    by_cases h3 : n < 0
    · rw [if_pos h3, if_pos trivial]
    rw [if_neg h3, if_pos (by simp; omega)]
  rw [if_neg hc]
  have hz := padSize_bd n (by omega) (by omega)
  have hs : ∀ k, gripsackref1_GetPad.f (k + 1) (mkS l) a n = if (l.length : Int) - a < padSize n then some (⟨#[]⟩, 0, 5) else gripsackref1_GetPad.l0 k (mkS l) a n (a + n) := by
    intro k
    unfold gripsackref1_GetPad.f
    simp only [gripsackref1_GetPad.j0, size_mkS, gripsackref1_Size.f, Option.bind_some]
    rw [if_neg (by omega), if_neg (by omega), if_neg (by omega), if_neg (by simp; omega), w64 (by omega)]
    by_cases hq : (l.length : Int) - a < padSize n
    · rw [if_pos hq, if_pos hq]
    · rw [if_neg hq, if_neg hq, w64 (by omega)]
  by_cases hq : (l.length : Int) - a < padSize n
  · rw [if_pos hq]
    exact ⟨_, rfl, 1, by rw [hs, if_pos hq]⟩
  rw [if_neg hq]
  obtain ⟨d, hd⟩ := Int.eq_ofNat_of_zero_le (show 0 ≤ a + padSize n - (a + n) by omega)
  have hloop := ref_loop l a n (by omega) (by omega) (by omega) (by omega) (by omega) d (d + 1) (a + n) (by omega) (by omega) hd (by omega)
  have he : (((mkS l).extract a.toNat (a + padSize n).toNat).data.toList.drop n.toNat) = (l.drop (a + n).toNat).take d := by
    rw [extract_mkS, data_mkS, List.drop_take, List.drop_drop]
    congr 1
    · omega
    · congr 1; omega
  rw [he]
  by_cases hall : ∀ x ∈ (l.drop (a + n).toNat).take d, x = 0
  · rw [if_pos ((trimB_nil _ _).2 hall)]
    rw [if_pos hall] at hloop
    exact ⟨_, rfl, d + 2, by rw [hs, if_neg hq, hloop]⟩
  · rw [if_neg (fun h => hall ((trimB_nil _ _).1 h))]
    rw [if_neg hall] at hloop
    exact ⟨_, rfl, d + 2, by rw [hs, if_neg hq, hloop]⟩

theorem PadAll : gripsacklaw8_PadAll.Pure := by
  intro s a n hs ha hn
  obtain ⟨l, rfl⟩ := exists_mkS s
  rw [size_mkS] at hs
  by_cases hl : (l.length : Int) > 3000
  · refine ⟨0, ?_⟩
    unfold gripsacklaw8_PadAll.f
    rw [size_mkS, if_pos hl, awake_true]; rfl
  obtain ⟨r, h1, k, h2⟩ := get_ref l a n (by omega) (wf_i64 ha) (wf_i64 hn)
  refine ⟨k, ?_⟩
  unfold gripsacklaw8_PadAll.f
  rw [size_mkS, if_neg hl, h1, h2, put_eq l hs, refpad_eq l hs, awake_true]
  simp only [Option.bind_some, pad_Size.f, gripsackref1_Size.f, gripsacklaw1_Err.f, if_true]

/-- The bytes of the first strings, each with what fills it. -/
def rowsOf : List (List UInt8) → List UInt8
  | [] => []
  | l :: r => l ++ List.replicate (gap l.length) 0 ++ rowsOf r
theorem rowsOf_append (a b : List (List UInt8)) : rowsOf (a ++ b) = rowsOf a ++ rowsOf b := by
  induction a with
  | nil => rfl
  | cons x r ih => simp [rowsOf, ih]
theorem rowsOf_length (a : List (List UInt8)) (h : ∀ l ∈ a, l.length ≤ 1200) : (rowsOf a).length ≤ 2000 * a.length := by
  induction a with
  | nil => simp [rowsOf]
  | cons x r ih =>
    have h1 := ih fun l hl => h l (by simp [hl])
    have h2 := h x (by simp)
    have h3 := gap_le x.length (by omega)
    simp [rowsOf]; omega

theorem rd_map (ls : List (List UInt8)) (i : Nat) (h : i < ls.length) : rdOf ByteArray.empty (ls.map mkS) (i : Int) = mkS ls[i] := by
  unfold rdOf
  rw [Int.toNat_natCast, List.getD_eq_getElem?_getD, List.getElem?_map, List.getElem?_eq_getElem h]; rfl

theorem rows_read (ls : List (List UInt8)) (hn : ls.length ≤ 6) (hsm : ∀ l ∈ ls, l.length ≤ 1200) (d : Nat) :
    ∀ (k i : Nat), i ≤ ls.length → ls.length - i = d → d < k → gripsacklaw8_PadRows.l1 k (ls.map mkS) (mkS (rowsOf ls)) ((rowsOf (ls.take i)).length : Int) (i : Int) = some true := by
  have hlen := rowsOf_length ls hsm
  induction d with
  | zero =>
    intro k i hi hd hk
    obtain ⟨k, rfl⟩ : ∃ m, k = m + 1 := ⟨k - 1, by omega⟩
    obtain rfl : i = ls.length := by omega
    simp only [gripsacklaw8_PadRows.l1, List.length_map, size_mkS, List.take_length]
    rw [if_neg (by omega), w64 (by omega)]
    have h1 : pad_Get.f (mkS (rowsOf ls)) (((rowsOf ls).length : Int) + 1) 0 = some (⟨#[]⟩, 0, 1) := by
      unfold pad_Get.f
      rw [if_neg (by simp; omega), if_pos (by simp; omega)]
    have h2 : pad_Get.f (mkS (rowsOf ls)) 0 (-1) = some (⟨#[]⟩, 0, 1) := by
      unfold pad_Get.f
      rw [if_neg (by simp; omega), if_pos (by omega)]
    rw [h1, h2]
    simp only [Option.bind_some, gripsacklaw1_Err.f, if_true, awake_true]
  | succ d ih =>
    intro k i hi hd hk
    obtain ⟨k, rfl⟩ : ∃ m, k = m + 1 := ⟨k - 1, by omega⟩
    have hlt : i < ls.length := by omega
    have hli := hsm ls[i] (List.getElem_mem hlt)
    have hgi := gap_le ls[i].length (by omega)
    have hsplit : rowsOf ls = rowsOf (ls.take i) ++ (ls[i] ++ List.replicate (gap ls[i].length) 0) ++ rowsOf (ls.drop (i + 1)) := by
      conv => lhs; rw [← List.take_append_drop i ls, List.drop_eq_getElem_cons hlt, rowsOf_append]
      simp [rowsOf]
    have hl2 := congrArg List.length hsplit
    simp at hl2
    have hg := get_ok (rowsOf (ls.take i)) ls[i] (rowsOf (ls.drop (i + 1))) _ rfl (by omega)
    rw [← hsplit] at hg
    have hnext : rowsOf (ls.take (i + 1)) = rowsOf (ls.take i) ++ (ls[i] ++ List.replicate (gap ls[i].length) 0) := by
      rw [List.take_succ_eq_append_getElem hlt, rowsOf_append]; simp [rowsOf]
    have hl3 := congrArg List.length hnext
    simp at hl3
    simp only [gripsacklaw8_PadRows.l1, List.length_map]
    rw [if_pos (by omega), if_pos (by omega), rd_map ls i hlt, size_mkS, hg]
    simp only [Option.bind_some, if_true, gripsacklaw1_Err.f]
    rw [if_neg (by omega), w64 (by omega)]
    have := ih k (i + 1) (by omega) (by omega) (by omega)
    rw [hl3] at this
    rw [show (((rowsOf (ls.take i)).length + ls[i].length + gap ls[i].length : Nat) : Int) = (((rowsOf (ls.take i)).length + (ls[i].length + gap ls[i].length) : Nat) : Int) by omega]
    exact this

theorem rows_put (ls : List (List UInt8)) (hn : ls.length ≤ 6) (d : Nat) :
    ∀ (i : Nat), i ≤ ls.length → ls.length - i = d → (∀ l ∈ ls.take i, l.length ≤ 1200) → ∃ k, gripsacklaw8_PadRows.l0 k (ls.map mkS) (mkS (rowsOf (ls.take i))) (i : Int) = some true := by
  induction d with
  | zero =>
    intro i hi hd hsm
    obtain rfl : i = ls.length := by omega
    rw [List.take_length] at hsm ⊢
    refine ⟨ls.length + 3, ?_⟩
    simp only [gripsacklaw8_PadRows.l0, List.length_map]
    rw [if_neg (by omega)]
    exact rows_read ls hn hsm ls.length (ls.length + 2) 0 (by omega) (by omega) (by omega)
  | succ d ih =>
    intro i hi hd hsm
    have hlt : i < ls.length := by omega
    by_cases hbig : (ls[i].length : Int) > 1200
    · refine ⟨1, ?_⟩
      simp only [gripsacklaw8_PadRows.l0, List.length_map]
      rw [if_pos (by omega), if_pos (by omega), rd_map ls i hlt, size_mkS, if_pos hbig, awake_true]; rfl
    have hsm' : ∀ l ∈ ls.take (i + 1), l.length ≤ 1200 := by
      intro l hl
      rw [List.take_succ_eq_append_getElem hlt] at hl
      rcases List.mem_append.1 hl with hl | hl
      · exact hsm l hl
      · obtain rfl : l = ls[i] := by simpa using hl
        omega
    obtain ⟨k, hk⟩ := ih (i + 1) (by omega) (by omega) hsm'
    refine ⟨k + 1, ?_⟩
    have hlen := rowsOf_length _ hsm
    have hti : (ls.take i).length ≤ 6 := by simp; omega
    have hgi := gap_le ls[i].length (by omega)
    simp only [gripsacklaw8_PadRows.l0, List.length_map]
    rw [if_pos (by omega), if_pos (by omega), rd_map ls i hlt, size_mkS, if_neg hbig, put_eq _ (by omega)]
    simp only [Option.bind_some, size_mkS]
    rw [if_pos (by simp; omega), append_mkS, w64 (by omega)]
    rw [List.take_succ_eq_append_getElem hlt, rowsOf_append] at hk
    simpa [rowsOf] using hk

theorem PadRows (l : List ByteArray) : ∃ k, gripsacklaw8_PadRows.f k l = some true := by
  obtain ⟨ls, rfl⟩ : ∃ ls : List (List UInt8), l = ls.map mkS := ⟨l.map fun s => s.data.toList, by rw [List.map_map, show (mkS ∘ fun s : ByteArray => s.data.toList) = id from funext mkS_data, List.map_id]⟩
  by_cases hn : ((ls.map mkS).length : Int) > 6
  · refine ⟨0, ?_⟩
    unfold gripsacklaw8_PadRows.f
    rw [if_pos hn, awake_true]; rfl
  obtain ⟨k, hk⟩ := rows_put ls (by simp at hn; omega) ls.length 0 (by omega) (by omega) (by simp)
  refine ⟨k, ?_⟩
  unfold gripsacklaw8_PadRows.f
  rw [if_neg hn]
  exact hk
theorem PadRows.walk (a : Option Addr) (c : Nat) (l : List ByteArray) (w : World) (hr : Kd.C Kd.string w a l.length l) (hc : l.length ≤ c) (_ : ∀ s ∈ l, s.size ≤ maxLen) :
    Calls Tryd.prog 6 #[.slice a l.length c] w fun e w' => e = .returned (.bool true) ∧ Below w.heap.size w w' := by
  obtain ⟨k, h⟩ := PadRows l
  exact gripsacklaw8_PadRows.calls k a c l true w hr hc h
end Go.Proofs.YtofcgjialejdjaaDoor.Pure
