/- The reference's numbers as text, and its record. -/
import Derived.Test.YtldimdlobgnnpaaDoorPRecNx
import Derived.Test.YtldimdlobgnnpaaDoorRecA
set_option linter.unusedVariables false
set_option linter.unusedSimpArgs false
namespace Go.Proofs.YtldimdlobgnnpaaDoor
open Go.RowKit Go.Proofs.YtldimdlobgnnpaaDoorW.PrintWords Go.Proofs.YtldimdlobgnnpaaDoor.PRecN

theorem nums_one (x : Int) (h : 0 ≤ x ∧ x ≤ 9) : strOfNums [(wrap64 (48 + x)) % 256] = mkS [UInt8.ofNat (48 + x.toNat)] := by
  rw [w64 (by omega)]
  unfold strOfNums mkS
  simp only [List.map_cons, List.map_nil]
  congr 3
  rw [show ((48 + x) % 256).toNat = 48 + x.toNat from by omega]
theorem digits_go : ∀ (d n k : Nat) (t : List UInt8), n < 10 ^ (d + 1) → n < 1000000000000000000 → d + 1 ≤ k → t.length + d + 1 ≤ 1000000 → gripsackref1_Digits.l0 k (n : Int) (mkS t) = some (mkS (Lib.decDigits n ++ t))
  | d, n, 0, t, _, _, hk, _ => absurd hk (by omega)
  | d, n, k + 1, t, hn, hm, hk, ht => by
    rw [Lib.decDigits]
    unfold gripsackref1_Digits.l0
    by_cases h : n < 10
    · rw [dif_pos h, if_neg (by omega)]
      simp only [Option.bind_some]
      rw [nums_one (n : Int) (by omega), append_mkS, if_pos (by rw [size_mkS, size_mkS]; simp; omega)]
      simp
    · cases d with
      | zero => omega
      | succ d =>
        have e1 : Int.tmod (n : Int) 10 = ((n % 10 : Nat) : Int) := by rw [Int.tmod_eq_emod_of_nonneg (by omega)]; omega
        have e0 : Int.tdiv (n : Int) 10 = ((n / 10 : Nat) : Int) := by rw [Int.tdiv_eq_ediv_of_nonneg (by omega)]; omega
        have e2 : wrap64 (Int.tdiv (n : Int) 10) = ((n / 10 : Nat) : Int) := by rw [e0]; exact w64 (by omega)
        rw [dif_neg h, if_pos (by omega)]
        simp only [Option.bind_some]
        rw [e2, e1, nums_one _ (by omega), Int.toNat_natCast, append_mkS, if_pos (by rw [size_mkS, size_mkS]; simp; omega)]
        rw [digits_go d (n / 10) k _ (by rw [Nat.pow_succ] at hn; omega) (by omega) (by omega) (by simp; omega)]
        simp
theorem digits_f (n : Int) (k : Nat) (h0 : 0 ≤ n) (h1 : n < 1000000000000000000) (hk : 18 ≤ k) : gripsackref1_Digits.f k n = some (mkS (Lib.itoa n)) := by
  have h := digits_go 17 n.toNat k [] (by omega) (by omega) (by omega) (by simp)
  rw [Int.toNat_of_nonneg h0, List.append_nil] at h
  rw [num_itoa h0]
  exact h

set_option maxHeartbeats 1000000 in
theorem record_any (k v : List UInt8) (w : World) (hl : k.length + v.length ≤ 1000000) :
    Calls Tryd.prog 27 #[.agg #[.string (mkS k), .string (mkS v)]] w fun e w' => e = .returned (.string (mkS (putL k v))) ∧ Below w.heap.size w w' := by
  obtain ⟨r1, h1⟩ : ∃ r, [32] ++ k = r := ⟨_, rfl⟩
  obtain ⟨r2, h2⟩ : ∃ r, r1 ++ [61] = r := ⟨_, rfl⟩
  obtain ⟨r3, h3⟩ : ∃ r, r2 ++ v = r := ⟨_, rfl⟩
  obtain ⟨r4, h4⟩ : ∃ r, r3 ++ [10] = r := ⟨_, rfl⟩
  have l1 : r1.length = k.length + 1 := by rw [← h1]; simp
  have l2 : r2.length = k.length + 2 := by rw [← h2]; simp; omega
  have l3 : r3.length = k.length + v.length + 2 := by rw [← h3]; simp; omega
  have l4 : r4.length = k.length + v.length + 3 := by rw [← h4]; simp; omega
  have hr : restL k v = r4 := by rw [← h4, ← h3, ← h2, ← h1]; rfl
  have a1 := fun W => str_add (P := Tryd.prog) (s := ⟨#[32]⟩) (t := mkS k) (a := [32]) (b := k) rfl rfl h1 (by omega) W
  have a2 := fun W => str_add (P := Tryd.prog) (s := mkS r1) (t := ⟨#[61]⟩) (a := r1) (b := [61]) rfl rfl h2 (by omega) W
  have a3 := fun W => str_add (P := Tryd.prog) (s := mkS r2) (t := mkS v) (a := r2) (b := v) rfl rfl h3 (by omega) W
  have a4 := fun W => str_add (P := Tryd.prog) (s := mkS r3) (t := ⟨#[10]⟩) (a := r3) (b := [10]) rfl rfl h4 (by omega) W
  have HR := Aside0.mk hr
  have hl4 : r4.length ≤ 1000003 := by omega
  clear h1 h2 h3 h4 l1 l2 l3 l4 hr
  have HS := Aside0.mk (recNum_spec r4.length (by omega))
  go_enter Tryd.func27, Tryd.ntmps27
  go_wp2_with fail
  go_loopw [4] (fun n wr => ∃ d : Nat, 1 ≤ d ∧ d ≤ 21 ∧ n = .int .i64 ((r4.length + d : Nat) : Int) ∧ Aside0 (d ≤ Lib.nDigits (r4.length + d) ∧ numGo r4.length (21 - d) d = recNum r4.length) ∧ Aside0 (Below w.heap.size w wr)) (fun n _ => r4.length + 21 - (intOf n).toNat)
  case atStart => exact ⟨1, by omega, by omega, by go_num, ⟨Lib.nDigits_pos _, rfl⟩, ⟨by go_grown⟩⟩
  case round =>
    obtain ⟨d, hd1, hd2, rfl, HD, HB⟩ := hrel
    have hq20 : Lib.nDigits (r4.length + d) ≤ 20 := Lib.nDigits_le20 _ (by omega)
    have hsz := digits_size (r4.length + d)
    by_cases hq : Lib.nDigits (r4.length + d) = d
    · have hN : recNum r4.length = r4.length + d := by
        rw [← HD.out.2]
        obtain ⟨f, hf⟩ : ∃ f, 21 - d = f + 1 := ⟨20 - d, by omega⟩
        rw [hf]; unfold numGo; rw [if_pos hq]
      have a5 := fun W => str_add (P := Tryd.prog) (s := mkS (Lib.itoa ((r4.length + d : Nat) : Int))) (t := mkS r4) (a := Lib.itoa ((r4.length + d : Nat) : Int)) (b := r4) (c := putL k v) rfl rfl (by unfold putL; rw [HR.out, hN, num_itoa (by omega), Int.toNat_natCast]) (by
        unfold putL; rw [HR.out, hN, List.length_append, Lib.decDigits_length]; omega) W
      obtain ⟨sd, hsd⟩ : ∃ sd, mkS (Lib.itoa ((r4.length + d : Nat) : Int)) = sd := ⟨_, rfl⟩
      obtain ⟨nn, hnn⟩ : ∃ nn : Nat, r4.length + d = nn := ⟨_, rfl⟩
      rw [hsd] at a5 hsz
      rw [hnn] at hsz hsd
      rw [hnn]
      have HDG := Aside0.mk (show gripsackref1_Digits.f 18 (nn : Int) = some sd by rw [← hsd]; exact digits_f (nn : Int) 18 (by omega) (by omega) (by omega))
      have hc : ((nn : Int) != ((r4.length : Int) + (sd.size : Int))) = false := by rw [hsz, ← hnn, hq]; simp <;> omega
      have hsb : sd.size ≤ 20 := by rw [hnn] at hq20; omega
      clear hsz hsd
      go_wp2_with (first
        | (go_at_call 9; have _h := HQ; refine (gripsackref1_Digits.calls 18 _ sd _ HDG.out).mono ?_; rintro e w2 ⟨rfl, hb2⟩)
        | (go_at_call 9; refine (gripsackref1_Digits.calls 18 _ sd _ HDG.out).mono ?_; rintro e w1 ⟨rfl, hb1⟩; have HQ := Aside0.mk (below_next HB.out hb1)))
      go_ret
      exact ⟨rfl, below_next HQ.out hb2⟩
    · have hN : numGo r4.length (21 - (d + 1)) (d + 1) = recNum r4.length := by
        rw [← HD.out.2]
        obtain ⟨f, hf⟩ : ∃ f, 21 - d = f + 1 := ⟨20 - d, by have := HD.out.1; omega⟩
        rw [hf, show 21 - (d + 1) = f by omega]
        conv => rhs; unfold numGo
        rw [if_neg hq]
      have HN := Aside0.mk hN
      have hmono := nDigits_mono (r4.length + d) (r4.length + (d + 1)) (by omega)
      have HD2 := Aside0.mk (show d + 1 ≤ Lib.nDigits (r4.length + (d + 1)) by have := HD.out.1; omega)
      have hd20 : d + 1 ≤ 21 := by have := HD.out.1; omega
      obtain ⟨sd, hsd⟩ : ∃ sd, mkS (Lib.itoa ((r4.length + d : Nat) : Int)) = sd := ⟨_, rfl⟩
      obtain ⟨nn, hnn⟩ : ∃ nn : Nat, r4.length + d = nn := ⟨_, rfl⟩
      rw [hsd] at hsz
      have hc : ((nn : Int) != ((r4.length : Int) + (sd.size : Int))) = true := by rw [hsz, ← hnn]; simp <;> omega
      rw [hnn] at hsd ⊢
      have HDG := Aside0.mk (show gripsackref1_Digits.f 18 (nn : Int) = some sd by rw [← hsd]; exact digits_f (nn : Int) 18 (by omega) (by omega) (by omega))
      have hsb : sd.size ≤ 20 := by omega
      have hnb : nn ≤ 1000100 := by omega
      have HNN := Aside0.mk hnn
      clear hsz hsd hnn hq hN hmono
      go_wp2_with (go_at_call 9; refine (gripsackref1_Digits.calls 18 _ sd _ HDG.out).mono ?_; rintro e w1 ⟨rfl, hb1⟩; have HQ := Aside0.mk (below_next HB.out hb1))
      go_roundw
      case measure => simp [intOf]; have := HNN.out; omega
      case rel => exact ⟨d + 1, by omega, hd20, by have := HNN.out; go_num, ⟨HD2.out, HN.out⟩, HQ⟩
def gripsackref1_record.f (a0 a1 : ByteArray) : Option ByteArray := if a0.size + a1.size ≤ 1000000 then some (mkS (putL a0.data.toList a1.data.toList)) else none
theorem gripsackref1_record.calls (a0 a1 r : ByteArray) (w : World) (h : gripsackref1_record.f a0 a1 = some r) :
    Calls Tryd.prog 27 #[.agg #[.string a0, .string a1]] w fun e w' => e = .returned (.string r) ∧ Below w.heap.size w w' := by
  unfold gripsackref1_record.f at h
  split at h
  · rename_i hs
    obtain rfl := Option.some.inj h
    obtain ⟨k, rfl⟩ := exists_mkS a0
    obtain ⟨v, rfl⟩ := exists_mkS a1
    rw [data_mkS, data_mkS]
    exact record_any k v w (by simpa using hs)
  · cases h
end Go.Proofs.YtldimdlobgnnpaaDoor
