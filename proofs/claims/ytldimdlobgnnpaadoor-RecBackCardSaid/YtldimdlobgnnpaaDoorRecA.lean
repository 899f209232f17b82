/- rec.put: a record's bytes. -/
import Derived.Test.YtldimdlobgnnpaaDoorGood
import Derived.Test.YtldimdlobgnnpaaDoorRecPlain
import Derived.Test.YtldimdlobgnnpaaDoorStr
set_option linter.unusedVariables false
set_option linter.unusedSimpArgs false
namespace Go.Proofs.YtldimdlobgnnpaaDoor
open Go.RowKit Go.Proofs.YtldimdlobgnnpaaDoorW.PrintWords

/-- 's + t', told by lists under names of their own. -/
theorem str_add {P : Program} {a b c : List UInt8} {s t : ByteArray} (hs : s = mkS a) (ht : t = mkS b) (hc : a ++ b = c) (h : c.length ≤ 9223372036854775807) (W : World) : (Op.stringOp .add s t).run P W = .ok (.string (mkS c)) W := by
  subst hs ht hc
  rw [run_string_add_sum _ _ _ (by simp at h ⊢; exact h), append_mkS]
theorem digits_size (n : Nat) : (mkS (Lib.itoa (n : Int))).size = Lib.nDigits n := by
  rw [size_mkS, num_itoa (by omega), Lib.decDigits_length]; simp
set_option maxHeartbeats 1000000 in
theorem put_any (k v : List UInt8) (w : World) (hG : Good w) (hl : k.length + v.length ≤ 1000000) :
    Calls Tryd.prog 22 #[.agg #[.string (mkS k), .string (mkS v)]] w fun e w' => e = .returned (.string (mkS (putL k v))) ∧ Below w.heap.size w w' := by
  obtain ⟨r1, h1⟩ : ∃ r, [32] ++ k = r := ⟨_, rfl⟩
  obtain ⟨r2, h2⟩ : ∃ r, r1 ++ [61] = r := ⟨_, rfl⟩
  obtain ⟨r3, h3⟩ : ∃ r, r2 ++ v = r := ⟨_, rfl⟩
  obtain ⟨r4, h4⟩ : ∃ r, r3 ++ [10] = r := ⟨_, rfl⟩
  have l1 : r1.length = k.length + 1 := by rw [← h1]; simp
  have l2 : r2.length = k.length + 2 := by rw [← h2]; simp; omega
  have l3 : r3.length = k.length + v.length + 2 := by rw [← h3]; simp; omega
  have l4 : r4.length = k.length + v.length + 3 := by rw [← h4]; simp; omega
  have hr : restL k v = r4 := by rw [← h4, ← h3, ← h2, ← h1]; rfl
  have a1 := fun W => str_add (P := Tryd.prog) (s := ⟨#[32]⟩) (t := mkS k) (a := [32]) (b := k) rfl rfl h1 (by omega) W
  have a2 := fun W => str_add (P := Tryd.prog) (s := mkS r1) (t := ⟨#[61]⟩) (a := r1) (b := [61]) rfl rfl h2 (by omega) W
  have a3 := fun W => str_add (P := Tryd.prog) (s := mkS r2) (t := mkS v) (a := r2) (b := v) rfl rfl h3 (by omega) W
  have a4 := fun W => str_add (P := Tryd.prog) (s := mkS r3) (t := ⟨#[10]⟩) (a := r3) (b := [10]) rfl rfl h4 (by omega) W
  have HR := Aside0.mk hr
  have hl4 : r4.length ≤ 1000003 := by omega
  clear h1 h2 h3 h4 l1 l2 l3 l4 hr
  have HS := Aside0.mk (recNum_spec r4.length (by omega))
  have HG := Aside0.mk hG
  clear hG
  go_enter Tryd.func22, Tryd.ntmps22
  go_wp2_with fail
  go_loopw [4] (fun n wr => ∃ d : Nat, 1 ≤ d ∧ d ≤ 21 ∧ n = .int .i64 ((r4.length + d : Nat) : Int) ∧ Aside0 (d ≤ Lib.nDigits (r4.length + d) ∧ numGo r4.length (21 - d) d = recNum r4.length) ∧ Aside0 (Below w.heap.size w wr)) (fun n _ => r4.length + 21 - (intOf n).toNat)
  case atStart => exact ⟨1, by omega, by omega, by go_num, ⟨Lib.nDigits_pos _, rfl⟩, ⟨by go_grown⟩⟩
  case round =>
    obtain ⟨d, hd1, hd2, rfl, HD, HB⟩ := hrel
    have hq20 : Lib.nDigits (r4.length + d) ≤ 20 := Lib.nDigits_le20 _ (by omega)
    have hsz := digits_size (r4.length + d)
    by_cases hq : Lib.nDigits (r4.length + d) = d
    · have hN : recNum r4.length = r4.length + d := by
        rw [← HD.out.2]
        obtain ⟨f, hf⟩ : ∃ f, 21 - d = f + 1 := ⟨20 - d, by omega⟩
        rw [hf]; unfold numGo; rw [if_pos hq]
      have a5 := fun W => str_add (P := Tryd.prog) (s := mkS (Lib.itoa ((r4.length + d : Nat) : Int))) (t := mkS r4) (a := Lib.itoa ((r4.length + d : Nat) : Int)) (b := r4) (c := putL k v) rfl rfl (by unfold putL; rw [HR.out, hN, num_itoa (by omega), Int.toNat_natCast]) (by
        unfold putL; rw [HR.out, hN, List.length_append, Lib.decDigits_length]; omega) W
      obtain ⟨sd, hsd⟩ : ∃ sd, mkS (Lib.itoa ((r4.length + d : Nat) : Int)) = sd := ⟨_, rfl⟩
      obtain ⟨nn, hnn⟩ : ∃ nn : Nat, r4.length + d = nn := ⟨_, rfl⟩
      rw [hsd] at a5 hsz
      rw [hnn] at hsz hsd
      rw [hnn]
      have HSD := Aside0.mk hsd
      have hc : ((((sd.size : Int) + (r4.length : Int)) != (nn : Int))) = false := by rw [hsz, ← hnn, hq]; simp; omega
      have hsb : sd.size ≤ 20 := by rw [hnn] at hq20; omega
      clear hsz hsd
      go_wp2_with (first
        | (go_at_call 30; refine (itoa_any _ _ (HG.out.below HQ.out) (by omega) (by omega)).mono ?_; rintro e w2 ⟨rfl, hb2⟩; rw [HSD.out])
        | (go_at_call 30; refine (itoa_any _ _ (HG.out.below HB.out) (by omega) (by omega)).mono ?_; rintro e w1 ⟨rfl, hb1⟩; have HQ := Aside0.mk (below_next HB.out hb1); rw [HSD.out]))
      go_ret
      exact ⟨rfl, below_next HQ.out hb2⟩
    · have hN : numGo r4.length (21 - (d + 1)) (d + 1) = recNum r4.length := by
        rw [← HD.out.2]
        obtain ⟨f, hf⟩ : ∃ f, 21 - d = f + 1 := ⟨20 - d, by have := HD.out.1; omega⟩
        rw [hf, show 21 - (d + 1) = f by omega]
        conv => rhs; unfold numGo
        rw [if_neg hq]
      have HN := Aside0.mk hN
      have hmono := nDigits_mono (r4.length + d) (r4.length + (d + 1)) (by omega)
      have HD2 := Aside0.mk (show d + 1 ≤ Lib.nDigits (r4.length + (d + 1)) by have := HD.out.1; omega)
      have hd20 : d + 1 ≤ 21 := by have := HD.out.1; omega
      obtain ⟨sd, hsd⟩ : ∃ sd, mkS (Lib.itoa ((r4.length + d : Nat) : Int)) = sd := ⟨_, rfl⟩
      obtain ⟨nn, hnn⟩ : ∃ nn : Nat, r4.length + d = nn := ⟨_, rfl⟩
      rw [hsd] at hsz
      have hc : ((((sd.size : Int) + (r4.length : Int)) != (nn : Int))) = true := by rw [hsz, ← hnn]; simp; omega
      rw [hnn] at hsd ⊢
      have HSD := Aside0.mk hsd
      have hsb : sd.size ≤ 20 := by omega
      have hnb : nn ≤ 1000100 := by omega
      have HNN := Aside0.mk hnn
      clear hsz hsd hnn hq hN hmono
      go_wp2_with (go_at_call 30; refine (itoa_any _ _ (HG.out.below HB.out) (by omega) (by omega)).mono ?_; rintro e w1 ⟨rfl, hb1⟩; have HQ := Aside0.mk (below_next HB.out hb1); rw [HSD.out])
      go_roundw
      case measure => simp [intOf]; have := HNN.out; omega
      case rel => exact ⟨d + 1, by omega, hd20, by have := HNN.out; go_num, ⟨HD2.out, HN.out⟩, HQ⟩
end Go.Proofs.YtldimdlobgnnpaaDoor
