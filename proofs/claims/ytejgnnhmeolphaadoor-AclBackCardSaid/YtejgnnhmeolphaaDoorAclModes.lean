/- AclModes: the walk. -/
import Derived.Test.YtejgnnhmeolphaaDoorAclLaw
set_option linter.unusedVariables false
set_option linter.unusedSimpArgs false
namespace Go.Proofs.YtejgnnhmeolphaaDoor
open Go.RowKit Go.Proofs.YtejgnnhmeolphaaDoorW.PrintWords Go.Proofs.YtejgnnhmeolphaaDoor.PAclR

def fromL (n : Int) : List Ace := [⟨1, 0, n / 64⟩, ⟨3, 0, Go.bits .and .i64 (n / 8) 7⟩, ⟨6, 0, Go.bits .and .i64 n 7⟩]
theorem from_f (x n : Int) (h : Go.bits .and .i64 x 511 = n) (h2 : Go.bits .and .i64 n 511 = n) : acl_From.f x = some (fromL n) := by
  unfold acl_From.f fromL
  rw [h]
theorem modes_all : ∀ n : Fin 512, modeL (fromL (n.val : Int)) = n.val ∧ mayL (fromL (n.val : Int)) = true ∧ (0 ≤ permL (fromL (n.val : Int)) 1 ∧ permL (fromL (n.val : Int)) 1 ≤ 7) ∧ (0 ≤ permL (fromL (n.val : Int)) 3 ∧ permL (fromL (n.val : Int)) 3 ≤ 7) ∧ permL (fromL (n.val : Int)) 5 ≤ 7 ∧ (0 ≤ permL (fromL (n.val : Int)) 6 ∧ permL (fromL (n.val : Int)) 6 ≤ 7) := by decide +kernel
theorem modes_int (n : Int) (h0 : 0 ≤ n) (h1 : n < 512) : modeL (fromL n) = n ∧ mayL (fromL n) = true ∧ (0 ≤ permL (fromL n) 1 ∧ permL (fromL n) 1 ≤ 7) ∧ (0 ≤ permL (fromL n) 3 ∧ permL (fromL n) 3 ≤ 7) ∧ permL (fromL n) 5 ≤ 7 ∧ (0 ≤ permL (fromL n) 6 ∧ permL (fromL n) 6 ≤ 7) := by
  have h := modes_all ⟨n.toNat, by omega⟩
  have e : ((n.toNat : Nat) : Int) = n := Int.toNat_of_nonneg h0
  simp only [e] at h
  exact h
theorem wraps_i63 (n : Int) (h₀ : 0 ≤ n) (h₁ : n < 2 ^ 63) : IntKind.i64.wrap n = n := by rw [IntKind.wrap_i64]; omega
theorem and511 (x : Int) (h0 : 0 ≤ x) (h1 : x < 1000000000) : Go.bits .and .i64 x 511 = x % 512 := bits_mask .i64 63 (by decide) wraps_i63 9 (by decide) x h0 (by omega)
set_option maxHeartbeats 1000000 in
set_option maxRecDepth 100000 in
theorem modes_walk (m more : Int) (w : World) (hG : Good w) (h0 : 0 ≤ m ∧ m ≤ 65535) (h1 : 0 ≤ more ∧ more ≤ 255) : Calls Tryd.prog 5 #[.int .u16 m, .int .u8 more] w fun e w' => e = .returned (.bool true) ∧ Below w.heap.size w w' := by
  have HG := Aside0.mk hG
  clear hG
  obtain ⟨n, hn⟩ : ∃ n, n = m % 512 := ⟨_, rfl⟩
  go_enter Tryd.func5, Tryd.ntmps5
  go_wp2_with fail
  have hx : Go.bits .and .i64 (m % 512 + more * 512) 511 = n := by rw [and511 _ (by omega) (by omega)]; omega
  have hx2 : Go.bits .and .i64 n 511 = n := by rw [and511 _ (by omega) (by omega)]; omega
  refine (acl_From.calls _ _ _ (from_f _ n hx hx2)).mono ?_
  rintro e w1 ⟨v, rfl, hR, hb1⟩
  obtain ⟨A, c, rfl, hc, hC⟩ := Kd.R_reads hR
  have HC := Aside0.mk hC
  have HB1 := Aside0.mk hb1
  obtain ⟨ad, rfl, p0, p1, p2⟩ := at_T27 hC 0 (by omega) (by simp [fromL])
  obtain ⟨ad', e1, q0, q1, q2⟩ := at_T27 hC 1 (by omega) (by simp [fromL])
  obtain rfl := Option.some.inj e1
  obtain ⟨ad', e2, r0, r1, r2⟩ := at_T27 hC 2 (by omega) (by simp [fromL])
  obtain rfl := Option.some.inj e2
  simp only [rd_T27, fromL, List.length_cons, List.length_nil, Int.toNat_zero, List.getD_cons_zero, Nat.zero_mul, show (1 : Int).toNat = 1 from rfl, show (2 : Int).toNat = 2 from rfl, List.getD_cons_succ] at p0 p1 p2 q0 q1 q2 r0 r1 r2 hc
  clear hC hR
  subst hn
  clear e1 e2 hb1
  have hl3 : (fromL (m % 512)).length = 3 := rfl
  simp only [hl3]
  simp [Addr.add] at p0 p1 p2 q0 q1 q2 r0 r1 r2
  go_wp2_with fail
  obtain ⟨g1, g2, g3, g4, g5, g6⟩ := modes_int (m % 512) (by omega) (by omega)
  have hm := mode_any (some ad) c (fromL (m % 512)) w1 HC.out hc (by rw [hl3]; decide) g3 g4 g5 g6
  rw [g1, hl3] at hm
  refine hm.mono ?_
  rintro e w2 ⟨rfl, hb2⟩
  have HC2 := Aside0.mk (Kd.C_below HC.out hb2)
  have HB2 := Aside0.mk (below_next HB1.out hb2)
  clear hm hb2 g1 g3 g4 g5 g6
  go_wp2_with fail
  have hm := aclMay_any (some ad) c (fromL (m % 512)) w2 HC2.out hc (by rw [hl3]; decide)
  rw [g2, hl3] at hm
  refine hm.mono ?_
  rintro e w3 ⟨rfl, hb3⟩
  have HB3 := Aside0.mk (below_next HB2.out hb3)
  clear hm hb3 g2
  go_wp2_with (go_at_call 11; refine (awake_any _ (HG.out.below HB3.out)).mono ?_; rintro e w4 ⟨rfl, hb4⟩)
  go_ret
  exact ⟨rfl, below_next HB3.out hb4⟩
end Go.Proofs.YtejgnnhmeolphaaDoor
