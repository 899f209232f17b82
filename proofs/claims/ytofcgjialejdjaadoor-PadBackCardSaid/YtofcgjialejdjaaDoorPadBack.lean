/- The walk of PadBack: data is told again, wherever it stands. -/
import Derived.Test.YtofcgjialejdjaaDoorPadPure
set_option linter.unusedVariables false
set_option linter.unusedSimpArgs false
namespace Go.Proofs.YtofcgjialejdjaaDoor
open Go.RowKit Go.Proofs.YtofcgjialejdjaaDoor.PPad Go.Proofs.YtofcgjialejdjaaDoorW.PrintWords Go.Proofs.YtofcgjialejdjaaDoorW.PrintLast Go.Proofs.YtofcgjialejdjaaDoor.Pure

theorem err_any (e : Int) (w : World) : Calls Tryd.prog 14 #[.int .i64 e] w fun r w' => r = .returned (.int .i64 e) ∧ w = w' := by
  go_enter Tryd.func14, Tryd.ntmps14
  go_wp2
  go_ret
  exact ⟨rfl, rfl⟩

set_option maxHeartbeats 4000000 in
set_option maxRecDepth 100000 in
theorem padBack_long (s ahead behind p : ByteArray) (m : Nat) (w : World) (g0 : (decide (1500 < (s.size : Int)) || decide (100 < (ahead.size : Int)) || decide (100 < (behind.size : Int))) = false)
    (h1 : s.size ≤ 1500) (h2 : ahead.size ≤ 100) (h3 : behind.size ≤ 100) (hm : m ≤ 65535)
    (hp : pad_Put.f s = some p) (hps : p.size ≤ 2100) (hlt : s.size < p.size) (hlt2 : p.size < s.size + 512)
    (t0 : ((p.size : Int) % 512 != 0) = false)
    (hg : pad_Get.f (ahead ++ p ++ behind) (ahead.size : Int) (s.size : Int) = some (s, (ahead.size : Int) + p.size, 0))
    (f1 g1 : ByteArray) (f2 g2 : Int) (hf : pad_Get.f (mkS (p.data.toList.set (s.size + m % (p.size - s.size)) 1)) 0 (s.size : Int) = some (f1, f2, 4)) (hgm : pad_Get.f (p.extract 0 (p.size - 1)) 0 (s.size : Int) = some (g1, g2, 5)) (haw : gripsacklaw8_awake.f = some true) :
    Calls Tryd.prog 4 #[.string s, .string ahead, .string behind, .int .u16 m] w fun e w' => e = .returned (.bool true) ∧ Below w.heap.size w w' := by
  have hmod := Int.emod_nonneg (m : Int) (show (p.size : Int) - s.size ≠ 0 by omega)
  have hmod2 := Int.emod_lt_of_pos (m : Int) (show 0 < (p.size : Int) - s.size by omega)
  have hi : s.size + m % (p.size - s.size) < p.data.toList.length := by
    have := Nat.mod_lt m (show 0 < p.size - s.size by omega)
    simp; omega
  go_enter Tryd.func4, Tryd.ntmps4
  go_wp2_with (go_at_call 12; refine (pad_Put.calls _ _ _ hp).mono ?_; rintro e w1 ⟨rfl, hb1⟩)
  refine (pad_Get.calls _ _ _ _ _ _ _ hg).mono ?_
  rintro e w2 ⟨rfl, hb2⟩
  go_wp2_with (go_at_call 14; refine (err_any _ _).mono ?_; rintro e w3 ⟨rfl, rfl⟩)
  obtain ⟨w4, cap, hcv, hb4, hz4, hB4⟩ := conv_world (P := Tryd.prog) w2 9 34 5 p Tryd.underlying9 Tryd.underlying34 Tryd.underlying5
  have hci := hB4.cell _ hi
  have hfi := hB4.free _ hi
  have hB5 := hB4.set _ hi 1
  have hbk := hB5.back (P := Tryd.prog) 34 9 5 cap p.size (by simp) Tryd.underlying34 Tryd.underlying5 Tryd.underlying9
  have hb5 : Below w2.heap.size w2 (w4.setCell ⟨w2.heap.size, s.size + m % (p.size - s.size), none⟩ (.int .u8 1)) := hb4.setCell (Nat.le_refl _) _
  rw [hcv]
  go_simp
  go_wp2_with fail
  rw [show ((1 : UInt8).toNat : Int) = 1 from rfl] at hbk
  rw [hbk]
  clear hci hfi
  go_simp
  go_wp2_with fail
  refine (pad_Get.calls _ _ _ _ _ _ _ hf).mono ?_
  rintro e w6 ⟨rfl, hb6⟩
  go_wp2_with fail
  refine (pad_Get.calls _ _ _ _ _ _ _ hgm).mono ?_
  rintro e w7 ⟨rfl, hb7⟩
  go_wp2_with (first | (go_at_call 14; refine (err_any _ _).mono ?_; rintro e w3 ⟨rfl, rfl⟩) | (go_at_call 7; refine (gripsacklaw8_awake.calls _ _ haw).mono ?_; rintro e w8 ⟨rfl, hb8⟩))
  go_ret
  exact ⟨rfl, below_next (below_next (below_next (below_next (below_next hb1 hb2) hb5) hb6) hb7) hb8⟩

theorem padBack_guard (s ahead behind : ByteArray) (m : Int) (w : World) (g0 : 1500 < s.size ∨ 100 < ahead.size ∨ 100 < behind.size) (haw : gripsacklaw8_awake.f = some true) :
    Calls Tryd.prog 4 #[.string s, .string ahead, .string behind, .int .u16 m] w fun e w' => e = .returned (.bool true) ∧ Below w.heap.size w w' := by
  rcases g0 with g0 | g0 | g0
  all_goals
    go_enter Tryd.func4, Tryd.ntmps4
    go_wp2_with (go_at_call 7; refine (gripsacklaw8_awake.calls _ _ haw).mono ?_; rintro e w8 ⟨rfl, hb8⟩)
    all_goals go_ret
    all_goals exact ⟨rfl, hb8⟩

set_option maxHeartbeats 4000000 in
set_option maxRecDepth 100000 in
theorem padBack_full (s ahead behind p : ByteArray) (m : Int) (w : World) (g0 : (decide (1500 < (s.size : Int)) || decide (100 < (ahead.size : Int)) || decide (100 < (behind.size : Int))) = false)
    (h1 : s.size ≤ 1500) (h2 : ahead.size ≤ 100) (h3 : behind.size ≤ 100)
    (hp : pad_Put.f s = some p) (hps : p.size ≤ 2100)
    (t0 : ((p.size : Int) % 512 != 0) = false) (t1 : (p.size == s.size) = true) (t2 : s.size ≤ p.size) (t3 : p.size ≤ s.size)
    (hg : pad_Get.f (ahead ++ p ++ behind) (ahead.size : Int) (s.size : Int) = some (s, (ahead.size : Int) + p.size, 0)) (haw : gripsacklaw8_awake.f = some true) :
    Calls Tryd.prog 4 #[.string s, .string ahead, .string behind, .int .u16 m] w fun e w' => e = .returned (.bool true) ∧ Below w.heap.size w w' := by
  go_enter Tryd.func4, Tryd.ntmps4
  go_wp2_with (go_at_call 12; refine (pad_Put.calls _ _ _ hp).mono ?_; rintro e w1 ⟨rfl, hb1⟩)
  refine (pad_Get.calls _ _ _ _ _ _ _ hg).mono ?_
  rintro e w2 ⟨rfl, hb2⟩
  go_wp2_with (first | (go_at_call 14; refine (err_any _ _).mono ?_; rintro e w3 ⟨rfl, rfl⟩) | (go_at_call 7; refine (gripsacklaw8_awake.calls _ _ haw).mono ?_; rintro e w8 ⟨rfl, hb8⟩))
  go_ret
  exact ⟨rfl, below_next (below_next hb1 hb2) hb8⟩

theorem get_form (l : List UInt8) (n : Nat) (h : l.length = n + gap n) (hn : n ≤ 1500) (hx : ∃ x ∈ l.drop n, x ≠ 0) : pad_Get.f (mkS l) 0 (n : Int) = some (⟨#[]⟩, 0, 4) := by
  have hz := padSize_nat n (by omega)
  have hgl := gap_le n (by omega)
  unfold pad_Get.f
  rw [hz, if_neg (by simp; omega), if_neg (by simp; omega), if_neg (by simp; omega)]
  rw [extract_mkS, data_mkS, if_neg]
  rw [trimB_nil]
  obtain ⟨x, hx, hx0⟩ := hx
  refine fun hall => hx0 (hall x ?_)
  rw [show ((0 : Int) + ((n + gap n : Nat) : Int)).toNat - (0 : Int).toNat = l.length by omega, show (0 : Int).toNat = 0 from rfl, List.drop_zero, List.take_length, Int.toNat_natCast]
  exact hx
theorem get_more (l : List UInt8) (n : Nat) (h : l.length < n + gap n) (hn : n ≤ 1500) : pad_Get.f (mkS l) 0 (n : Int) = some (⟨#[]⟩, 0, 5) := by
  have hz := padSize_nat n (by omega)
  have hgl := gap_le n (by omega)
  unfold pad_Get.f
  rw [hz, if_neg (by simp; omega), if_neg (by simp; omega), if_pos (by simp; omega)]

theorem PadBack.walk (s ahead behind : ByteArray) (at_ : Int) (w : World) (_ : s.size ≤ 140737488351232) (_ : ahead.size ≤ 140737488351232) (_ : behind.size ≤ 140737488351232) (ha : (Lit.int .u16 at_).wf = true) :
    Calls Tryd.prog 4 #[.string s, .string ahead, .string behind, .int .u16 at_] w fun e w' => e = .returned (.bool true) ∧ Below w.heap.size w w' := by
  by_cases g0 : 1500 < s.size ∨ 100 < ahead.size ∨ 100 < behind.size
  · exact padBack_guard s ahead behind at_ w g0 awake_true
  have g1 : (decide (1500 < (s.size : Int)) || decide (100 < (ahead.size : Int)) || decide (100 < (behind.size : Int))) = false := by simp; omega
  have hm := wf_u16 ha
  obtain ⟨m, rfl⟩ := Int.eq_ofNat_of_zero_le hm.1
  obtain ⟨l, rfl⟩ := exists_mkS s
  obtain ⟨a, rfl⟩ := exists_mkS ahead
  obtain ⟨b, rfl⟩ := exists_mkS behind
  simp only [size_mkS] at g0
  have hgl := gap_le l.length (by omega)
  have hz := padSize_nat l.length (by omega)
  have hmod : (l.length + gap l.length) % 512 = 0 := by
    have : padSize l.length % 512 = 0 := by unfold padSize; omega
    omega
  have hp := put_eq l (by omega)
  have hg := get_ok a l b _ rfl (by omega)
  have hsz : (mkS (l ++ List.replicate (gap l.length) 0)).size = l.length + gap l.length := by simp
  have hg' : pad_Get.f (mkS a ++ mkS (l ++ List.replicate (gap l.length) 0) ++ mkS b) ((mkS a).size : Int) ((mkS l).size : Int) = some (mkS l, ((mkS a).size : Int) + ((mkS (l ++ List.replicate (gap l.length) 0)).size : Int), 0) := by
    rw [append_mkS, append_mkS, hsz, size_mkS, size_mkS, hg]
    congr 3; omega
  have t0 : (((mkS (l ++ List.replicate (gap l.length) 0)).size : Int) % 512 != 0) = false := by rw [hsz]; simp; omega
  by_cases hgz : gap l.length = 0
  · exact padBack_full _ _ _ _ _ w g1 (by simp; omega) (by simp; omega) (by simp; omega) hp (by omega) t0 (by rw [hsz, size_mkS]; simp [hgz]) (by rw [hsz, size_mkS]; omega) (by rw [hsz, size_mkS]; omega) hg' awake_true
  have hmm := Nat.mod_lt m (show 0 < gap l.length by omega)
  refine padBack_long _ _ _ _ m w g1 (by simp; omega) (by simp; omega) (by simp; omega) (by omega) hp (by omega) (by rw [hsz, size_mkS]; omega) (by rw [hsz, size_mkS]; omega) t0 hg' ⟨#[]⟩ ⟨#[]⟩ 0 0 ?_ ?_ awake_true
  · rw [hsz, data_mkS, size_mkS, show l.length + gap l.length - l.length = gap l.length by omega]
    refine get_form _ _ (by simp) (by omega) ⟨1, ?_, by decide⟩
    rw [List.set_append_right _ _ (by omega), List.drop_left, show l.length + m % gap l.length - l.length = m % gap l.length by omega]
    exact List.mem_iff_getElem.2 ⟨m % gap l.length, by simpa using hmm, by simp⟩
  · rw [hsz, extract_mkS, size_mkS]
    exact get_more _ _ (by simp; omega) (by omega)
end Go.Proofs.YtofcgjialejdjaaDoor
