/- strconv.FormatInt at base 8. -/
import Derived.Test.YtpmiddhdgidimaaGreatDoorHeadPlain
import Derived.Test.YtpmiddhdgidimaaGreatDoorNumReadF
set_option linter.unusedVariables false
set_option linter.unusedSimpArgs false
namespace Go.Proofs.YtpmiddhdgidimaaGreatDoor
open Go.RowKit Go.Proofs.YtpmiddhdgidimaaGreatDoorW.PrintWords

theorem octD_pad (n k : Nat) (hn : n < 8 ^ k) : ∀ d, octD (k + d) n = List.replicate d 48 ++ octD k n
  | 0 => rfl
  | d + 1 => by
    rw [show k + (d + 1) = (k + d) + 1 by omega, octD_cons, octD_pad n k hn d, List.replicate_succ, List.cons_append]
    congr 1
    have : n / 8 ^ (k + d) = 0 := Nat.div_eq_of_lt (Nat.lt_of_lt_of_le hn (Nat.pow_le_pow_right (by decide) (by omega)))
    rw [this]
    rfl
theorem tz64_any (w : World) (hG : Good w) : Calls Tryz.prog 112 #[.int .u64 8] w fun e w' => e = .returned (.int .i64 3) ∧ w' = w := by
  have ht := hG.tz
  have e0 : Go.bits .and .u64 8 (IntKind.u64.wrap (-8)) = 8 := by decide
  have e2 : IntKind.u64.wrap 2286961704410830920 = 2286961704410830920 := by decide
  go_enter Tryz.func112, Tryz.ntmps112
  go_wp2_with fail
  go_ret
  exact ⟨rfl, rfl⟩
theorem tz_any (w : World) (hG : Good w) : Calls Tryz.prog 109 #[.int .u64 8] w fun e w' => e = .returned (.int .i64 3) ∧ w' = w := by
  go_enter Tryz.func109, Tryz.ntmps109
  go_wp2_with (go_at_call 112; refine (tz64_any _ hG).mono ?_; rintro e w1 ⟨rfl, rfl⟩)
  go_ret
  exact ⟨rfl, rfl⟩
theorem two_any (w : World) : Calls Tryz.prog 108 #[.int .i64 8] w fun e w' => e = .returned (.bool true) ∧ w' = w := by
  have h : Go.bits .and .i64 8 7 = 0 := by rw [and7w _ (by decide) (by decide)]; rfl
  go_enter Tryz.func108, Tryz.ntmps108
  go_wp2_with fail
  go_ret
  exact ⟨rfl, rfl⟩
theorem digits_at (k : Nat) (h : k < 8) : ∀ h2, (⟨#[48, 49, 50, 51, 52, 53, 54, 55, 56, 57, 97, 98, 99, 100, 101, 102, 103, 104, 105, 106, 107, 108, 109, 110, 111, 112, 113, 114, 115, 116, 117, 118, 119, 120, 121, 122]⟩ : ByteArray)[k]'h2 = UInt8.ofNat (48 + k) := by
  intro h2
  rcases k with _ | _ | _ | _ | _ | _ | _ | _ | k
  all_goals first | rfl | omega
/-- The array when so many digits stand in it. -/
def fmtTo (n j : Nat) : List UInt8 := List.replicate (65 - j) 0 ++ octD j n
theorem fmtTo_length (n j : Nat) (hj : j ≤ 65) : (fmtTo n j).length = 65 := by unfold fmtTo; simp [octD_length]; omega
theorem fmtTo_step (n j : Nat) (hj : j < 65) : (fmtTo n j).set (64 - j) (UInt8.ofNat (48 + n / 8 ^ j % 8)) = fmtTo n (j + 1) := by
  unfold fmtTo
  rw [octD_cons, show 65 - j = (64 - j) + 1 by omega, List.replicate_succ', List.append_assoc, List.set_append_right _ _ (by simp), List.length_replicate, Nat.sub_self, show 65 - (j + 1) = 64 - j by omega]
  rfl
theorem zero_cells (w : World) : Bytes (w.alloc (.cells Tryz.zeroCells130 130)) w.heap.size (fmtTo 0 0) := by
  have hz : Tryz.zeroCells130 = (List.replicate 65 (Value.int .u8 0)).toArray := by kernel_rfl
  have h := heap_alloc_new w (.cells Tryz.zeroCells130 130)
  refine ⟨fun j hj => ?_, fun j hj => blk_frozen h j, blk_lt h⟩
  rw [fmtTo_length _ _ (by omega)] at hj
  rw [blk_cell h j, hz]
  unfold fmtTo octD
  rw [List.append_nil, Nat.sub_zero]
  obtain ⟨N, hN⟩ : ∃ N, N = 65 := ⟨_, rfl⟩
  rw [← hN] at hj ⊢
  simp [List.getD_eq_getElem?_getD, hj]
theorem slice_arr (g k : Nat) (hk : k < 65) (W : World) : (Instr.sliceAt 130 (.pointer (some ⟨g, 0, none⟩)) (some (.int .i64 (k : Int))) none none).run Tryz.prog W = .ok (.slice (some ⟨g, k, none⟩) (65 - k) (65 - k)) W := by
  have hl : Tryz.prog.arrayLen 130 = 65 := by kernel_rfl
  have h := run_sliceAt_array_l (P := Tryz.prog) W 130 ⟨g, 0, none⟩ (by kernel_rfl) .i64 (k : Int) (by omega) (by rw [hl]; omega)
  rw [hl, Int.toNat_natCast] at h
  have hs : (sizeOf (Tryz.prog.elem 130)).run Tryz.prog W = .ok 1 W := by kernel_rfl
  rw [h, hs]
  have hne : ¬ 65 = k := by omega
  simp [slicedAt, hne, Result.andThen, Addr.add]
  intro h; exact h.symm
/-- A part of a block of bytes, up to its end, as a string. -/
theorem Bytes.tail {P : Program} {W : World} {g : Nat} {l : List UInt8} (h : Bytes W g l) (src dst e : TypeId) (k n cap : Nat) (hn : n + k = l.length) (hs : P.underlying src = some (.slice e)) (he : P.underlying e = some (.int .u8)) (hd : P.underlying dst = some .string) :
    (convert src dst (.slice (some ⟨g, k, none⟩) n cap)).run P W = .ok (.string (mkS (l.drop k))) W := by
  have := run_convert_bytes_arg (P := P) W src e hs he g k n cap ((l.drop k).map fun b => (b.toNat : Int)) (by simp; omega) (fun i hi => by
    rw [h.cell (k + i) (by omega)]
    simp [List.getD_eq_getElem?_getD, List.getElem?_eq_getElem (show k + i < l.length by omega)]) dst hd
  rw [this]
  congr 2
  unfold strOfNums mkS
  rw [List.map_map, show ((fun n : Int => UInt8.ofNat n.toNat) ∘ fun b : UInt8 => (b.toNat : Int)) = id from funext fun b => by simp, List.map_id]
theorem and7u (x : Nat) (h : x < 262144) : Go.bits .and .u64 (x : Int) 7 = ((x % 8 : Nat) : Int) := by
  have := u64_and_nat x 7 (by omega) (by omega)
  rw [show (7 : Nat) = 2 ^ 3 - 1 by decide, Nat.and_two_pow_sub_one_eq_mod] at this
  exact this
set_option maxHeartbeats 2000000 in
set_option maxRecDepth 100000 in
theorem formatBits_any (n : Nat) (hn : n < 262144) (w : World) (hG : Good w) :
    Calls Tryz.prog 98 #[.slice none 0 0, .int .u64 (n : Int), .int .i64 8, .bool false, .bool false] w fun e w' => (∃ k, 1 ≤ k ∧ k ≤ 6 ∧ n < 8 ^ k ∧ e = .returned (.tuple #[.slice none 0 0, .string (mkS (octD k n))])) ∧ Below w.heap.size w w' := by
  have HG := Aside0.mk hG
  clear hG
  have hda := digits_at
  have hY0 := zero_cells w
  have g0 := heap_alloc_new w (.cells Tryz.zeroCells130 130)
  have HB0 := Aside0.mk (below_alloc (Below.refl w.heap.size w) (.cells Tryz.zeroCells130 130))
  have HY0 := Aside0.mk hY0
  clear hY0 g0
  go_enter Tryz.func98, Tryz.ntmps98
  go_wp2_with (first
    | (go_at_call 108; refine (two_any _).mono ?_; rintro e w1 ⟨rfl, hw1⟩; rw [hw1]; clear hw1)
    | (go_at_call 109; refine (tz_any _ (HG.out.below HB0.out)).mono ?_; rintro e w1 ⟨rfl, hw1⟩; rw [hw1]; clear hw1))
  obtain ⟨g, hg⟩ : ∃ g, w.heap.size = g := ⟨_, rfl⟩
  rw [hg] at HY0 ⊢
  go_loopw [1, 13] (fun uv iv wr => ∃ (j m k : Nat), j + k = 65 ∧ j ≤ 5 ∧ uv = .int .u64 (m : Int) ∧ iv = .int .i64 (k : Int) ∧ Aside0 (m = n / 8 ^ j) ∧ m < 262144 ∧ Aside0 (Bytes wr g (fmtTo n j)) ∧ Aside0 (Below w.heap.size w wr)) (fun uv _ _ => (intOf uv).toNat)
  case atStart => exact ⟨0, n, 65, by omega, by omega, rfl, rfl, ⟨by simp⟩, hn, HY0, HB0⟩
  case round =>
    obtain ⟨j, m, k, hjk, hj, rfl, rfl, HM, hm, HY, HB⟩ := hrel
    obtain ⟨k, rfl⟩ : ∃ i, k = i + 1 := ⟨k - 1, by omega⟩
    have u0 := HY.out.cell k (by rw [fmtTo_length _ _ (by omega)]; omega)
    have f0 := HY.out.free k (by rw [fmtTo_length _ _ (by omega)]; omega)
    obtain ⟨d, hd⟩ : ∃ d, m % 8 = d := ⟨_, rfl⟩
    have hd8 : d < 8 := by omega
    have hand := and7u m hm
    rw [hd] at hand
    have HD := Aside0.mk hd
    have hk65 : k < 65 := by omega
    clear hd
    by_cases hlt : 8 ≤ m
    · have hb8 : ((UInt8.ofNat (48 + d)).toNat : Int) = (48 + (d : Int)) % 256 := by simp [UInt8.toNat_ofNat']
      go_wp2_with fail
      go_roundw
      case measure => simp [intOf]; omega
      case rel =>
        have hs := HY.out.set k (by rw [fmtTo_length _ _ (by omega)]; omega) (UInt8.ofNat (48 + d))
        rw [hb8] at hs
        have hk : k = 64 - j := by omega
        have hjn : j + 1 ≤ 5 := by
          have h2 := HM.out
          by_cases e : j = 5
          · subst e
            have h5 : (8 : Nat) ^ 5 = 32768 := by decide
            rw [h5] at h2
            omega
          · omega
        refine ⟨j + 1, m / 8, k, by omega, hjn, by go_num, rfl, ⟨by rw [HM.out, Nat.div_div_eq_div_mul, Nat.pow_succ]⟩, by omega, ⟨?_⟩, ⟨HB.out.setCell (show w.heap.size ≤ g by omega) _⟩⟩
        rw [← fmtTo_step n j (by omega), ← HM.out, HD.out, ← hk]
        exact hs
    · have hmd : m = d := by have := HD.out; omega
      subst hmd
      have hb8 : ((UInt8.ofNat (48 + m)).toNat : Int) = (48 + (m : Int)) % 256 := by simp [UInt8.toNat_ofNat']
      have hs := HY.out.set k (by rw [fmtTo_length _ _ (by omega)]; omega) (UInt8.ofNat (48 + m))
      rw [hb8] at hs
      have hfull : (fmtTo n j).set k (UInt8.ofNat (48 + m)) = fmtTo n (j + 1) := by
        have h1 := fmtTo_step n j (by omega)
        rw [← HM.out, HD.out, show 64 - j = k by omega] at h1
        exact h1
      rw [hfull] at hs
      have hsl := slice_arr g k hk65
      have hdrop : (fmtTo n (j + 1)).drop k = octD (j + 1) n := by
        unfold fmtTo
        rw [List.drop_append_of_le_length (by simp; omega), List.drop_of_length_le (by simp; omega), List.nil_append]
      have hcv := hs.tail (P := Tryz.prog) 40 9 5 k (65 - k) (65 - k) (by rw [fmtTo_length _ _ (by omega)]; omega) Tryz.underlying40 Tryz.underlying5 Tryz.underlying9
      rw [hdrop] at hcv
      have hnk : n < 8 ^ (j + 1) := by
        have h2 := HM.out
        have hp : 0 < 8 ^ j := Nat.pow_pos (by decide)
        have h3 : n / 8 ^ j < 8 := by rw [← h2]; omega
        have h4 := (Nat.div_lt_iff_lt_mul hp).1 h3
        rw [Nat.pow_succ, Nat.mul_comm]
        exact h4
      have HNK := Aside0.mk hnk
      clear hs hfull hdrop hnk
      go_wp2_with fail
      go_ret2
      exact ⟨⟨j + 1, by omega, by omega, HNK.out, rfl⟩, HB.out.setCell (show w.heap.size ≤ g by omega) _⟩
end Go.Proofs.YtpmiddhdgidimaaGreatDoor
