/- HeadSplits: the walk. -/
import Derived.Test.YtpmiddhdgidimaaDoorHeadAwake
import Derived.Test.YtpmiddhdgidimaaDoorHeadSplitsPlain
set_option linter.unusedVariables false
set_option linter.unusedSimpArgs false
namespace Go.Proofs.YtpmiddhdgidimaaDoor
open Go.RowKit Go.Proofs.YtpmiddhdgidimaaDoorW.PrintWords

/-- The bytes that a slice holds. -/
structure BytesAt (w : World) (A : Option Addr) (len : Nat) (zs : List Int) : Prop where
  bound : len ≤ 140737488351232
  cell : ∀ i, i < len → ∃ x, A = some x ∧ x.block < w.heap.size ∧ w.cell? (x.add i) = some (.int .u8 (zs.getD i 0)) ∧ 0 ≤ zs.getD i 0 ∧ zs.getD i 0 ≤ 255
theorem add_blk (x : Addr) (i : Nat) : (x.add i).block = x.block := by unfold Addr.add; split <;> rfl
def SplitsDone (w : World) (e : Ending) (w' : World) : Prop := e = .returned (.bool true) ∧ Below w.heap.size w w'
theorem split_no0 {S : List UInt8} (hs : (splitT S).2.2 = false) : splitT S = ([], [], false) := by
  unfold splitT at hs ⊢
  split at hs
  · cases hs
  · rename_i h
    rw [if_neg h]
    simp only at hs ⊢
    split at hs
    · rename_i h2; rw [if_pos h2]
    · rename_i h2
      rw [if_neg h2]
      split at hs
      · rename_i h3; rw [if_pos h3]
      · cases hs
set_option maxHeartbeats 4000000 in
set_option maxRecDepth 100000 in
theorem headSplits_main (A : Option Addr) (len cap : Nat) (zs : List Int) (w : World) (hG : Good w) (hN : BytesAt w A len zs) :
    Calls Tryd.prog 7 #[.slice A len cap] w (SplitsDone w) := by
  have HG := Aside0.mk hG
  have HN := Aside0.mk hN
  have hlen := hN.bound
  obtain ⟨R, hR⟩ : ∃ R, R = SplitsDone w := ⟨_, rfl⟩
  have HD : Aside0 (∀ e w', e = .returned (.bool true) → Below w.heap.size w w' → R e w') := ⟨fun e w' h1 h2 => hR ▸ ⟨h1, h2⟩⟩
  rw [← hR]
  clear hG hN hR
  go_enter Tryd.func7, Tryd.ntmps7
  go_wp2_with fail
  go_loopw [3, 4] (fun sv iv wr => ∃ (i : Nat) (S : List UInt8), i ≤ len ∧ sv = .string (mkS S) ∧ iv = .int .i64 (i : Int) ∧ S.length ≤ 464 ∧ wr = w) (fun _ iv _ => len - (intOf iv).toNat)
  case atStart => exact ⟨0, [], by omega, rfl, rfl, by decide, rfl⟩
  case round =>
    obtain ⟨i, S, hi, rfl, rfl, hS, rfl⟩ := hrel
    by_cases hc : i < len ∧ S.length < 400
    · obtain ⟨hil, hS4⟩ := hc
      have u1 : (i : Int) < (len : Int) := by omega
      have u2 : (S.length : Int) < 400 := by omega
      obtain ⟨x, rfl, hxb, hxc, hz0, hz1⟩ := HN.out.cell i hil
      generalize zs.getD i 0 = z at *
      obtain ⟨zn, hzn⟩ : ∃ n : Nat, z = n := ⟨z.toNat, by omega⟩
      subst hzn
      obtain ⟨r, hr⟩ : ∃ r : Nat, zn % 5 = r := ⟨_, rfl⟩
      have r1 : Int.tmod (zn : Int) 5 = r := by rw [Int.tmod_eq_emod_of_nonneg (by omega)]; omega
      have r2 : (zn : Int) % 5 = r := by omega
      have HR5 := Aside0.mk hr
      obtain ⟨q, hq⟩ : ∃ q : Nat, zn / 4 = q := ⟨_, rfl⟩
      have r3 : Int.tdiv (zn : Int) 4 = q := by rw [Int.tdiv_eq_ediv_of_nonneg (by omega)]; omega
      have r4 : (zn : Int) / 4 = q := by omega
      have r5 : IntKind.i64.wrap (zn : Int) = zn := by rw [IntKind.wrap_i64]; omega
      have r6 : IntKind.i64.wrap (q : Int) = q := by rw [IntKind.wrap_i64]; omega
      have hq63 : q ≤ 63 := by omega
      obtain ⟨S1, hS1⟩ : ∃ S1, (if r = 0 then S ++ [47] else S) = S1 := ⟨_, rfl⟩
      have hS1l : S1.length ≤ 400 := by
        rw [← hS1]
        split
        · simp only [List.length_append, List.length_cons, List.length_nil]; omega
        · omega
      have HS1 := Aside0.mk hS1
      clear hr hq hS1
      have hadd0 := fun W => str_add (P := Tryd.prog) (s := mkS S) (t := ⟨#[47]⟩) (a := S) (b := [47]) rfl rfl rfl (by simp; omega) W
      have hcase : (r = 0 ∧ S1 = S ++ [47]) ∨ (¬ r = 0 ∧ S1 = S) := by
        have := HS1.out
        by_cases h : r = 0
        · left; rw [if_pos h] at this; exact ⟨h, this.symm⟩
        · right; rw [if_neg h] at this; exact ⟨h, this.symm⟩
      rcases hcase with ⟨rfl, rfl⟩ | ⟨hr0, rfl⟩
      all_goals
        go_wp2_with fail
        go_loopw [3, 5] (fun sv kv wq => ∃ (k : Nat) (S2 : List UInt8), k ≤ q ∧ sv = .string (mkS S2) ∧ kv = .int .i64 (k : Int) ∧ S2.length ≤ 401 + k ∧ wq = wr) (fun _ kv _ => q - (intOf kv).toNat)
        case atStart => exact ⟨0, _, by omega, rfl, rfl, by omega, rfl⟩
        case round =>
          obtain ⟨k, S2, hk, rfl, rfl, hS2, rfl⟩ := hrel
          by_cases hkq : k < q
          · have u3 : (k : Int) < (q : Int) := by omega
            have hadd := fun W => str_add (P := Tryd.prog) (s := mkS S2) (t := ⟨#[110]⟩) (a := S2) (b := [110]) rfl rfl rfl (by simp; omega) W
            go_wp2_with fail
            exact ⟨⟨k + 1, S2 ++ [110], by omega, rfl, by go_num, by simp; omega, trivial⟩, by simp [intOf]; omega⟩
          · have u3 : ¬ (k : Int) < (q : Int) := by omega
            go_wp2_with fail
            exact ⟨⟨i + 1, S2, by omega, rfl, by go_num, by omega, trivial⟩, by simp [intOf]; omega⟩
    · have hcc : (¬ (i : Int) < (len : Int)) ∨ ((i : Int) < (len : Int) ∧ ¬ (S.length : Int) < 400) := by omega
      clear hc HN hlen
      by_cases h1 : S.length ≤ 100
      · have u1 : (S.length : Int) ≤ 100 := by omega
        have HSP := Aside0.mk (split_any S wr (by omega))
        unfold splitV at HSP
        rw [split_short h1] at HSP
        simp only at HSP
        rcases hcc with u2 | ⟨u2, u3⟩
        all_goals
          go_wp2_with (first
            | (go_at_call 15; refine HSP.out.mono ?_; rintro e w1 ⟨rfl, hb1⟩)
            | (go_at_call 8; refine (awake_any _ (HG.out.below hb1)).mono ?_; rintro e w2 ⟨rfl, hb2⟩))
          exact HD.out _ _ rfl (below_next hb1 hb2)
      · cases hok : (splitT S).2.2 with
        | true =>
          obtain ⟨p, n, hsp, hp0, hp1, hn0, hn1, hpn⟩ := split_yes h1 hok
          have u1 : ¬ (S.length : Int) ≤ 100 := by omega
          have v1 : (0 : Int) < p.length := by omega
          have v2 : (p.length : Int) ≤ 155 := by omega
          have v3 : (0 : Int) < n.length := by omega
          have v4 : (n.length : Int) ≤ 100 := by omega
          have HSP := Aside0.mk (split_any S wr (by omega))
          unfold splitV at HSP
          rw [hsp] at HSP
          simp only at HSP
          have hpe : p ≠ [] := by intro h; rw [h] at hp0; simp at hp0
          have HJ := Aside0.mk (fun W => show Calls Tryd.prog 16 #[.agg (hdCells ⟨n, 0, 0, 0, 0, 0, 0, [], [], [], 0, 0, p⟩)] W fun e w' => e = .returned (.string (mkS S)) ∧ Below W.heap.size W w' from by
            have := join_any ⟨n, 0, 0, 0, 0, 0, 0, [], [], [], 0, 0, p⟩ W (by show n.length ≤ _; omega) (by show p.length ≤ _; omega)
            rw [show joinT ⟨n, 0, 0, 0, 0, 0, 0, [], [], [], 0, 0, p⟩ = S by unfold joinT; rw [if_neg hpe]; exact hpn] at this
            exact this)
          obtain ⟨P1, hP1⟩ : ∃ P1, p ++ [47] = P1 := ⟨_, rfl⟩
          have k1 := fun W => str_add (P := Tryd.prog) (s := mkS p) (t := ⟨#[47]⟩) (a := p) (b := [47]) rfl rfl hP1 (by rw [← hP1]; simp; omega) W
          have k2 := fun W => str_add (P := Tryd.prog) (s := mkS P1) (t := mkS n) (a := P1) (b := n) rfl rfl (show P1 ++ n = S by rw [← hP1, ← hpn]; simp) (by omega) W
          clear hP1 hpn hsp hpe hok
          rcases hcc with u2 | ⟨u2, u3⟩
          all_goals
            go_wp2_with fail
            refine HSP.out.mono ?_
            rintro e w1 ⟨rfl, hb1⟩
            have B1 := Aside0.mk hb1
            clear hb1
            go_wp2_with fail
            refine (HJ.out _).mono ?_
            rintro e w2 ⟨rfl, hb2⟩
            have B2 := Aside0.mk (below_next B1.out hb2)
            clear hb2
            go_wp2_with fail
            refine (awake_any _ (HG.out.below B2.out)).mono ?_
            rintro e w3 ⟨rfl, hb3⟩
            have B3 := Aside0.mk (below_next B2.out hb3)
            clear hb3
            go_wp2
            exact HD.out _ _ rfl B3.out
        | false =>
          have hsp := split_no0 hok
          have HNO := Aside0.mk (fun a ha hno hend => (split_no h1 hok a ha hno hend).2)
          have u1 : ¬ (S.length : Int) ≤ 100 := by omega
          have HSP := Aside0.mk (split_any S wr (by omega))
          unfold splitV at HSP
          rw [hsp] at HSP
          simp only at HSP
          clear hsp hok
          rcases hcc with u2 | ⟨u2, u3⟩
          all_goals
            go_wp2_with fail
            refine HSP.out.mono ?_
            rintro e w1 ⟨rfl, hb1⟩
            have B1 := Aside0.mk hb1
            clear hb1 u2 hi
            go_wp2_with fail
            go_loopw [9] (fun av wq => ∃ a : Nat, a < S.length ∧ av = .int .i64 (a : Int) ∧ wq = w1 ∧ Aside0 (∀ j, j < a → ¬ (S.getD j 0 = 47 ∧ S.length ≤ j + 101))) (fun av _ => S.length - (intOf av).toNat)
            case atStart => exact ⟨0, by omega, rfl, rfl, ⟨fun j hj => by omega⟩⟩
            case round =>
              obtain ⟨a, ha, rfl, rfl, hno⟩ := hrel
              by_cases hend : S.length ≤ a + 1
              · have v1 : ¬ (a : Int) + 1 < (S.length : Int) := by omega
                have HF := Aside0.mk (HNO.out a ha hno.out (.inl hend))
                have v2 : ((S.length : Int) ≤ (a : Int) + 1) := by omega
                go_wp2_with fail
                refine (awake_any _ (HG.out.below B1.out)).mono ?_
                rintro e w3 ⟨rfl, hb3⟩
                have B3 := Aside0.mk (below_next B1.out hb3)
                clear hb3
                go_wp2
                exact HD.out _ _ rfl B3.out
              · have v1 : (a : Int) + 1 < (S.length : Int) := by omega
                have v0 : (a : Int) < (S.length : Int) := by omega
                have v00 : (0 : Int) ≤ (a : Int) := by omega
                have w1' : IntKind.i64.wrap ((S.length : Int) - a) = (S.length : Int) - a := by rw [IntKind.wrap_i64]; omega
                have w2' : IntKind.i64.wrap ((S.length : Int) - a - 1) = (S.length : Int) - a - 1 := by rw [IntKind.wrap_i64]; omega
                have HEND := Aside0.mk (fun (h : S.getD a 0 = 47 ∧ S.length ≤ a + 101) => HNO.out a ha hno.out (.inr h))
                have HNEXT := Aside0.mk (fun (h : ¬ (S.getD a 0 = 47 ∧ S.length ≤ a + 101)) => show ∀ j, j < a + 1 → ¬ (S.getD j 0 = 47 ∧ S.length ≤ j + 101) from fun j hj => by
                  rcases Nat.lt_succ_iff_lt_or_eq.1 hj with h' | rfl
                  · exact hno.out j h'
                  · exact h)
                have hb0 : ∀ h, (mkS S)[a]'h = S.getD a 0 := fun h => by
                  rw [List.getD_eq_getElem?_getD, List.getElem?_eq_getElem ha]
                  simp [mkS, ByteArray.getElem_eq_getElem_data]
                generalize S.getD a 0 = b at *
                by_cases hb : b = 47
                · subst hb
                  by_cases h100 : S.length ≤ a + 101
                  · have u5 : ¬ (100 : Int) < (S.length : Int) - a - 1 := by omega
                    have hz := HEND.out ⟨rfl, h100⟩
                    have hz2 : (a = 0) ∨ (¬ (a : Int) = 0 ∧ (155 : Int) < a) := by omega
                    rcases hz2 with rfl | ⟨z1, z2⟩
                    all_goals go_wp2_with fail
                    all_goals
                      refine (awake_any _ (HG.out.below B1.out)).mono ?_
                      rintro e w3 ⟨rfl, hb3⟩
                      have B3 := Aside0.mk (below_next B1.out hb3)
                      clear hb3
                      go_wp2
                      exact HD.out _ _ rfl B3.out
                  · have u5 : (100 : Int) < (S.length : Int) - a - 1 := by omega
                    have HN2 := Aside0.mk (HNEXT.out (fun h => h100 h.2))
                    go_wp2_with fail
                    exact ⟨⟨a + 1, by omega, by go_num, trivial, HN2⟩, by simp [intOf]; omega⟩
                · have e0 : ((b.toNat : Int) == 47) = false := by
                    have : b.toNat ≠ 47 := fun h => hb (UInt8.toNat_inj.1 h)
                    rw [beq_eq_false_iff_ne]; omega
                  have e1 : ¬ ((b.toNat : Int) = 47) := by
                    have : b.toNat ≠ 47 := fun h => hb (UInt8.toNat_inj.1 h)
                    omega
                  have HN2 := Aside0.mk (HNEXT.out (fun h => hb h.1))
                  go_wp2_with fail
                  exact ⟨⟨a + 1, by omega, by go_num, trivial, HN2⟩, by simp [intOf]; omega⟩
theorem bytes_of_row {w : World} {a : Option Addr} {len cap : Nat} {zs : List Int}
    (h : (a = none ∧ len = 0 ∧ cap = 0 ∧ zs = []) ∨ ∃ x, a = some x ∧ len ≤ cap ∧ cap ≤ maxLen ∧ zs.length = cap ∧ (∀ i, i < zs.length → w.cell? (x.add i) = some (.int .u8 (zs.getD i 0))) ∧ ∀ n ∈ zs, (Lit.int .u8 n).wf = true)
    (hy : len * 1 ≤ 140737488351232) : BytesAt w a len zs := by
  refine ⟨by omega, fun i hi => ?_⟩
  rcases h with ⟨_, rfl, _, _⟩ | ⟨x, rfl, h1, h2, h3, h4, h5⟩
  · omega
  · have hc := h4 i (by omega)
    have hm : zs.getD i 0 ∈ zs := by
      rw [List.getD_eq_getElem?_getD, List.getElem?_eq_getElem (by omega)]
      exact List.getElem_mem _
    have hb := World.block_lt_of_cell? w _ hc
    rw [add_blk] at hb
    exact ⟨x, rfl, hb, hc, wf_u8 (h5 _ hm)⟩
theorem headSplits_walk (A : Option Addr) (len cap : Nat) (zs : List Int) (w : World) (hG : Good w)
    (hz : (A = none ∧ len = 0 ∧ cap = 0 ∧ zs = []) ∨ ∃ x, A = some x ∧ len ≤ cap ∧ cap ≤ maxLen ∧ zs.length = cap ∧ (∀ i, i < zs.length → w.cell? (x.add i) = some (.int .u8 (zs.getD i 0))) ∧ ∀ n ∈ zs, (Lit.int .u8 n).wf = true)
    (hy : len * 1 ≤ 140737488351232) :
    Calls Tryd.prog 7 #[.slice A len cap] w fun e w' => e = .returned (.bool true) ∧ Below w.heap.size w w' :=
  headSplits_main A len cap zs w hG (bytes_of_row hz hy)
end Go.Proofs.YtpmiddhdgidimaaDoor
