/- AclKnown: the walk. Written by a small program of this session (wip/tools/genknown.py). -/
import Derived.Test.YtejgnnhmeolphaaDoorAclLaw
set_option linter.unusedVariables false
set_option linter.unusedSimpArgs false
namespace Go.Proofs.YtejgnnhmeolphaaDoor
open Go.RowKit Go.Proofs.YtejgnnhmeolphaaDoorW.PrintWords Go.Proofs.YtejgnnhmeolphaaDoor.PAclR

theorem itoa_0 : Lib.itoa 0 = [48] := by simp [Lib.itoa, Lib.decDigits]
theorem itoa_5 : Lib.itoa 5 = [53] := by simp [Lib.itoa, Lib.decDigits]
theorem itoa_9 : Lib.itoa 9 = [57] := by simp [Lib.itoa, Lib.decDigits]
theorem itoa_max : Lib.itoa 2147483647 = [50, 49, 52, 55, 52, 56, 51, 54, 52, 55] := by simp [Lib.itoa, Lib.decDigits]
theorem parse_of {s : List UInt8} {l : List Ace} (h1 : (splitOn 44 s).mapM partL = some l) (h2 : mayL l = true) (h3 : Lib.join (l.map aceText) [44] = s) : parseL s = some l := by
  unfold parseL
  rw [h1]
  exact if_pos ⟨h2, h3⟩
theorem parsed_of {s : List UInt8} {l : List Ace} (hs : s.length < 1000000) (hp : parseL s = some l) (w : World) (hG : Good w) : Calls Tryd.prog 9 #[.string (mkS s)] w fun e w' =>
    ∃ A c, e = .returned (.tuple #[.slice A l.length c, .bool true]) ∧ l.length ≤ c ∧ Kd.C k27 w' A l.length l ∧ Below w.heap.size w w' := by
  refine (parse_any s w hG hs).mono fun e w' h => ?_
  unfold ParseDone at h
  rw [hp] at h
  obtain ⟨⟨v, rfl, hR⟩, hb⟩ := h
  obtain ⟨A, c, rfl, hc, hC⟩ := Kd.R_reads hR
  exact ⟨A, c, rfl, hc, hC, hb⟩
def knownO1 : Obj := .cells #[.string ⟨#[117, 58, 58, 114, 119, 120, 44, 103, 58, 58, 114, 45, 120, 44, 111, 58, 58, 114, 45, 45]⟩, .string ⟨#[117, 58, 58, 114, 119, 45, 44, 117, 58, 53, 58, 114, 119, 120, 44, 103, 58, 58, 114, 45, 45, 44, 109, 58, 58, 114, 45, 45, 44, 111, 58, 58, 45, 45, 45]⟩, .string ⟨#[117, 58, 58, 114, 45, 45, 44, 103, 58, 58, 114, 119, 120, 44, 103, 58, 48, 58, 45, 119, 45, 44, 109, 58, 58, 45, 119, 120, 44, 111, 58, 58, 45, 45, 120]⟩, .string ⟨#[117, 58, 58, 45, 45, 45, 44, 117, 58, 48, 58, 45, 45, 45, 44, 117, 58, 50, 49, 52, 55, 52, 56, 51, 54, 52, 55, 58, 114, 45, 45, 44, 103, 58, 58, 45, 45, 45, 44, 103, 58, 57, 58, 45, 45, 120, 44, 109, 58, 58, 45, 45, 45, 44, 111, 58, 58, 114, 119, 120]⟩] 9 (0, 0)
def knownO2 : Obj := .cells #[.int .i64 492, .int .i64 416, .int .i64 281, .int .i64 7] 3 (0, 0)
theorem known_worlds (w : World) : Below w.heap.size w ((w.alloc (.cells #[.string ⟨#[117, 58, 58, 114, 119, 120, 44, 103, 58, 58, 114, 45, 120, 44, 111, 58, 58, 114, 45, 45]⟩, .string ⟨#[117, 58, 58, 114, 119, 45, 44, 117, 58, 53, 58, 114, 119, 120, 44, 103, 58, 58, 114, 45, 45, 44, 109, 58, 58, 114, 45, 45, 44, 111, 58, 58, 45, 45, 45]⟩, .string ⟨#[117, 58, 58, 114, 45, 45, 44, 103, 58, 58, 114, 119, 120, 44, 103, 58, 48, 58, 45, 119, 45, 44, 109, 58, 58, 45, 119, 120, 44, 111, 58, 58, 45, 45, 120]⟩, .string ⟨#[117, 58, 58, 45, 45, 45, 44, 117, 58, 48, 58, 45, 45, 45, 44, 117, 58, 50, 49, 52, 55, 52, 56, 51, 54, 52, 55, 58, 114, 45, 45, 44, 103, 58, 58, 45, 45, 45, 44, 103, 58, 57, 58, 45, 45, 120, 44, 109, 58, 58, 45, 45, 45, 44, 111, 58, 58, 114, 119, 120]⟩] 9)).alloc (.cells #[.int .i64 492, .int .i64 416, .int .i64 281, .int .i64 7] 3)) ∧ ((w.alloc (.cells #[.string ⟨#[117, 58, 58, 114, 119, 120, 44, 103, 58, 58, 114, 45, 120, 44, 111, 58, 58, 114, 45, 45]⟩, .string ⟨#[117, 58, 58, 114, 119, 45, 44, 117, 58, 53, 58, 114, 119, 120, 44, 103, 58, 58, 114, 45, 45, 44, 109, 58, 58, 114, 45, 45, 44, 111, 58, 58, 45, 45, 45]⟩, .string ⟨#[117, 58, 58, 114, 45, 45, 44, 103, 58, 58, 114, 119, 120, 44, 103, 58, 48, 58, 45, 119, 45, 44, 109, 58, 58, 45, 119, 120, 44, 111, 58, 58, 45, 45, 120]⟩, .string ⟨#[117, 58, 58, 45, 45, 45, 44, 117, 58, 48, 58, 45, 45, 45, 44, 117, 58, 50, 49, 52, 55, 52, 56, 51, 54, 52, 55, 58, 114, 45, 45, 44, 103, 58, 58, 45, 45, 45, 44, 103, 58, 57, 58, 45, 45, 120, 44, 109, 58, 58, 45, 45, 45, 44, 111, 58, 58, 114, 119, 120]⟩] 9)).alloc (.cells #[.int .i64 492, .int .i64 416, .int .i64 281, .int .i64 7] 3)).heap[w.heap.size]? = some knownO1 ∧ ((w.alloc (.cells #[.string ⟨#[117, 58, 58, 114, 119, 120, 44, 103, 58, 58, 114, 45, 120, 44, 111, 58, 58, 114, 45, 45]⟩, .string ⟨#[117, 58, 58, 114, 119, 45, 44, 117, 58, 53, 58, 114, 119, 120, 44, 103, 58, 58, 114, 45, 45, 44, 109, 58, 58, 114, 45, 45, 44, 111, 58, 58, 45, 45, 45]⟩, .string ⟨#[117, 58, 58, 114, 45, 45, 44, 103, 58, 58, 114, 119, 120, 44, 103, 58, 48, 58, 45, 119, 45, 44, 109, 58, 58, 45, 119, 120, 44, 111, 58, 58, 45, 45, 120]⟩, .string ⟨#[117, 58, 58, 45, 45, 45, 44, 117, 58, 48, 58, 45, 45, 45, 44, 117, 58, 50, 49, 52, 55, 52, 56, 51, 54, 52, 55, 58, 114, 45, 45, 44, 103, 58, 58, 45, 45, 45, 44, 103, 58, 57, 58, 45, 45, 120, 44, 109, 58, 58, 45, 45, 45, 44, 111, 58, 58, 114, 119, 120]⟩] 9)).alloc (.cells #[.int .i64 492, .int .i64 416, .int .i64 281, .int .i64 7] 3)).heap[w.heap.size + 1]? = some knownO2 :=
  ⟨below_alloc (below_alloc (Below.refl w.heap.size w) _) _, (heap_two w _ _).1, (heap_two w _ _).2⟩
def knownT0 : List UInt8 := [117, 58, 58, 114, 119, 120, 44, 103, 58, 58, 114, 45, 120, 44, 111, 58, 58, 114, 45, 45]
def knownL0 : List Ace := [⟨1, 0, 7⟩, ⟨3, 0, 5⟩, ⟨6, 0, 4⟩]
theorem known_str0 : mkS knownT0 = ⟨#[117, 58, 58, 114, 119, 120, 44, 103, 58, 58, 114, 45, 120, 44, 111, 58, 58, 114, 45, 45]⟩ := rfl
theorem known_may0 : mayL knownL0 = true := by kernel_rfl
theorem known_mode0 : modeL knownL0 = 492 := by kernel_rfl
theorem known_map0 : (splitOn 44 knownT0).mapM partL = some knownL0 := by kernel_rfl
theorem known_join0 : Lib.join (knownL0.map aceText) [44] = knownT0 := by
  simp only [knownL0, List.map_cons, List.map_nil, aceText, itoa_0, itoa_5, itoa_9, itoa_max]
  kernel_rfl
theorem known_len0 : knownL0.length = 3 := rfl
def knownT1 : List UInt8 := [117, 58, 58, 114, 119, 45, 44, 117, 58, 53, 58, 114, 119, 120, 44, 103, 58, 58, 114, 45, 45, 44, 109, 58, 58, 114, 45, 45, 44, 111, 58, 58, 45, 45, 45]
def knownL1 : List Ace := [⟨1, 0, 6⟩, ⟨2, 5, 7⟩, ⟨3, 0, 4⟩, ⟨5, 0, 4⟩, ⟨6, 0, 0⟩]
theorem known_str1 : mkS knownT1 = ⟨#[117, 58, 58, 114, 119, 45, 44, 117, 58, 53, 58, 114, 119, 120, 44, 103, 58, 58, 114, 45, 45, 44, 109, 58, 58, 114, 45, 45, 44, 111, 58, 58, 45, 45, 45]⟩ := rfl
theorem known_may1 : mayL knownL1 = true := by kernel_rfl
theorem known_mode1 : modeL knownL1 = 416 := by kernel_rfl
theorem known_map1 : (splitOn 44 knownT1).mapM partL = some knownL1 := by kernel_rfl
theorem known_join1 : Lib.join (knownL1.map aceText) [44] = knownT1 := by
  simp only [knownL1, List.map_cons, List.map_nil, aceText, itoa_0, itoa_5, itoa_9, itoa_max]
  kernel_rfl
theorem known_len1 : knownL1.length = 5 := rfl
def knownT2 : List UInt8 := [117, 58, 58, 114, 45, 45, 44, 103, 58, 58, 114, 119, 120, 44, 103, 58, 48, 58, 45, 119, 45, 44, 109, 58, 58, 45, 119, 120, 44, 111, 58, 58, 45, 45, 120]
def knownL2 : List Ace := [⟨1, 0, 4⟩, ⟨3, 0, 7⟩, ⟨4, 0, 2⟩, ⟨5, 0, 3⟩, ⟨6, 0, 1⟩]
theorem known_str2 : mkS knownT2 = ⟨#[117, 58, 58, 114, 45, 45, 44, 103, 58, 58, 114, 119, 120, 44, 103, 58, 48, 58, 45, 119, 45, 44, 109, 58, 58, 45, 119, 120, 44, 111, 58, 58, 45, 45, 120]⟩ := rfl
theorem known_may2 : mayL knownL2 = true := by kernel_rfl
theorem known_mode2 : modeL knownL2 = 281 := by kernel_rfl
theorem known_map2 : (splitOn 44 knownT2).mapM partL = some knownL2 := by kernel_rfl
theorem known_join2 : Lib.join (knownL2.map aceText) [44] = knownT2 := by
  simp only [knownL2, List.map_cons, List.map_nil, aceText, itoa_0, itoa_5, itoa_9, itoa_max]
  kernel_rfl
theorem known_len2 : knownL2.length = 5 := rfl
def knownT3 : List UInt8 := [117, 58, 58, 45, 45, 45, 44, 117, 58, 48, 58, 45, 45, 45, 44, 117, 58, 50, 49, 52, 55, 52, 56, 51, 54, 52, 55, 58, 114, 45, 45, 44, 103, 58, 58, 45, 45, 45, 44, 103, 58, 57, 58, 45, 45, 120, 44, 109, 58, 58, 45, 45, 45, 44, 111, 58, 58, 114, 119, 120]
def knownL3 : List Ace := [⟨1, 0, 0⟩, ⟨2, 0, 0⟩, ⟨2, 2147483647, 4⟩, ⟨3, 0, 0⟩, ⟨4, 9, 1⟩, ⟨5, 0, 0⟩, ⟨6, 0, 7⟩]
theorem known_str3 : mkS knownT3 = ⟨#[117, 58, 58, 45, 45, 45, 44, 117, 58, 48, 58, 45, 45, 45, 44, 117, 58, 50, 49, 52, 55, 52, 56, 51, 54, 52, 55, 58, 114, 45, 45, 44, 103, 58, 58, 45, 45, 45, 44, 103, 58, 57, 58, 45, 45, 120, 44, 109, 58, 58, 45, 45, 45, 44, 111, 58, 58, 114, 119, 120]⟩ := rfl
theorem known_may3 : mayL knownL3 = true := by kernel_rfl
theorem known_mode3 : modeL knownL3 = 7 := by kernel_rfl
theorem known_map3 : (splitOn 44 knownT3).mapM partL = some knownL3 := by kernel_rfl
theorem known_join3 : Lib.join (knownL3.map aceText) [44] = knownT3 := by
  simp only [knownL3, List.map_cons, List.map_nil, aceText, itoa_0, itoa_5, itoa_9, itoa_max]
  kernel_rfl
theorem known_len3 : knownL3.length = 7 := rfl
set_option maxHeartbeats 2000000 in
set_option maxRecDepth 100000 in
theorem known_walk0 (k : Int) (w : World) (hG : Good w) (h0 : 0 ≤ k ∧ k ≤ 255) (hk : k % 4 = 0) : Calls Tryd.prog 4 #[.int .u8 k] w fun e w' => e = .returned (.bool true) ∧ Below w.heap.size w w' := by
  have HG := Aside0.mk hG
  clear hG
  go_enter Tryd.func4, Tryd.ntmps4
  have hp := fun W hG => parsed_of (s := knownT0) (l := knownL0) (by decide) (parse_of known_map0 known_may0 known_join0) W hG
  rw [known_str0, known_len0] at hp
  have HP := Aside0.mk hp
  clear hp
  go_wp2_with fail
  obtain ⟨b0, g1, g2⟩ := known_worlds w
  generalize (w.alloc (.cells #[.string ⟨#[117, 58, 58, 114, 119, 120, 44, 103, 58, 58, 114, 45, 120, 44, 111, 58, 58, 114, 45, 45]⟩, .string ⟨#[117, 58, 58, 114, 119, 45, 44, 117, 58, 53, 58, 114, 119, 120, 44, 103, 58, 58, 114, 45, 45, 44, 109, 58, 58, 114, 45, 45, 44, 111, 58, 58, 45, 45, 45]⟩, .string ⟨#[117, 58, 58, 114, 45, 45, 44, 103, 58, 58, 114, 119, 120, 44, 103, 58, 48, 58, 45, 119, 45, 44, 109, 58, 58, 45, 119, 120, 44, 111, 58, 58, 45, 45, 120]⟩, .string ⟨#[117, 58, 58, 45, 45, 45, 44, 117, 58, 48, 58, 45, 45, 45, 44, 117, 58, 50, 49, 52, 55, 52, 56, 51, 54, 52, 55, 58, 114, 45, 45, 44, 103, 58, 58, 45, 45, 45, 44, 103, 58, 57, 58, 45, 45, 120, 44, 109, 58, 58, 45, 45, 45, 44, 111, 58, 58, 114, 119, 120]⟩] 9)).alloc (.cells #[.int .i64 492, .int .i64 416, .int .i64 281, .int .i64 7] 3) = W0 at b0 g1 g2 ⊢
  have HB0 := Aside0.mk b0
  have z1 := blk_lt g1
  have z2 := blk_lt g2
  have c1 : W0.cell? ⟨w.heap.size, 0, none⟩ = some (.string ⟨#[117, 58, 58, 114, 119, 120, 44, 103, 58, 58, 114, 45, 120, 44, 111, 58, 58, 114, 45, 45]⟩) := (blk_cell g1 0).trans rfl
  have c2 : W0.cell? ⟨w.heap.size + 1, 0, none⟩ = some (.int .i64 492) := (blk_cell g2 0).trans rfl
  clear g1 g2 b0
  refine (HP.out W0 (HG.out.below HB0.out)).mono ?_
  rintro e w1 ⟨A, c, rfl, hc, hC, hb1⟩
  have HC := Aside0.mk hC
  have HB1 := Aside0.mk (below_next HB0.out hb1)
  have d1 := (hb1.cell (p := ⟨w.heap.size, 0, none⟩) z1).trans c1
  have d2 := (hb1.cell (p := ⟨w.heap.size + 1, 0, none⟩) z2).trans c2
  have y1 := Nat.lt_of_lt_of_le z1 hb1.size
  have y2 := Nat.lt_of_lt_of_le z2 hb1.size
  clear hC hb1 c1 c2 z1 z2
  have hm := fun (W : World) (hb : Below w1.heap.size w1 W) => mode_any A c knownL0 W (Kd.C_below HC.out hb) hc (by decide) (by decide +kernel) (by decide +kernel) (by decide +kernel) (by decide +kernel)
  have ht := fun (W : World) (hb : Below w1.heap.size w1 W) => aclText_any A c knownL0 W ((HG.out.below HB1.out).below hb) (Kd.C_below HC.out hb) hc (may_parts known_may0).2.1 (may_parts known_may0).1 (may_parts known_may0).2.2
  have hy := fun (W : World) (hb : Below w1.heap.size w1 W) => aclMay_any A c knownL0 W (Kd.C_below HC.out hb) hc (by decide)
  simp only [known_mode0, known_len0] at hm
  simp only [known_join0, known_str0, known_len0] at ht
  simp only [known_may0, known_len0] at hy
  have HM := Aside0.mk hm
  have HT := Aside0.mk ht
  have HY := Aside0.mk hy
  clear hm ht hy HP
  have HA := Aside0.mk (fun (W : World) (hb : Below w1.heap.size w1 W) => awake_any W ((HG.out.below HB1.out).below hb))
  have HR := Aside0.mk (Below.refl w1.heap.size w1)
  go_wp2_with fail
  go_region_held3 (fun w' => w'.cell? ⟨w.heap.size, 0, none⟩ = some (.string ⟨#[117, 58, 58, 114, 119, 120, 44, 103, 58, 58, 114, 45, 120, 44, 111, 58, 58, 114, 45, 45]⟩) ∧ w'.cell? ⟨w.heap.size + 1, 0, none⟩ = some (.int .i64 492) ∧ Aside0 (Below w1.heap.size w1 w'))
    (first
      | (go_keep; done)
      | exact ⟨d1, d2, ⟨below_drew HR.out⟩⟩
      | (go_split_ands
         refine ⟨?_, ?_, ?_⟩
         · (rw [hbq.cell (by have := hbw.size; simp; omega)]; assumption)
         · (rw [hbq.cell (by have := hbw.size; simp; omega)]; assumption)
         · exact ⟨below_next hbw hbq⟩))
    ((first
      | (go_at_call 12; go_split_ands; have hbw := Aside0.out (by assumption : Aside0 (Below w1.heap.size w1 _)); refine (HM.out _ hbw).mono ?_; rintro e w2 ⟨rfl, hbq⟩)
      | (go_at_call 13; go_split_ands; have hbw := Aside0.out (by assumption : Aside0 (Below w1.heap.size w1 _)); refine (HT.out _ hbw).mono ?_; rintro e w2 ⟨rfl, hbq⟩)
      | (go_at_call 10; go_split_ands; have hbw := Aside0.out (by assumption : Aside0 (Below w1.heap.size w1 _)); refine (HY.out _ hbw).mono ?_; rintro e w2 ⟨rfl, hbq⟩)
      | (go_at_call 11; go_split_ands; have hbw := Aside0.out (by assumption : Aside0 (Below w1.heap.size w1 _)); refine (HA.out _ hbw).mono ?_; rintro e w2 ⟨rfl, hbq⟩)))
  all_goals
    go_wp2_with fail
    go_ret
    exact ⟨rfl, below_next HB1.out (below_next hbw hbq)⟩
set_option maxHeartbeats 2000000 in
set_option maxRecDepth 100000 in
theorem known_walk1 (k : Int) (w : World) (hG : Good w) (h0 : 0 ≤ k ∧ k ≤ 255) (hk : k % 4 = 1) : Calls Tryd.prog 4 #[.int .u8 k] w fun e w' => e = .returned (.bool true) ∧ Below w.heap.size w w' := by
  have HG := Aside0.mk hG
  clear hG
  go_enter Tryd.func4, Tryd.ntmps4
  have hp := fun W hG => parsed_of (s := knownT1) (l := knownL1) (by decide) (parse_of known_map1 known_may1 known_join1) W hG
  rw [known_str1, known_len1] at hp
  have HP := Aside0.mk hp
  clear hp
  go_wp2_with fail
  obtain ⟨b0, g1, g2⟩ := known_worlds w
  generalize (w.alloc (.cells #[.string ⟨#[117, 58, 58, 114, 119, 120, 44, 103, 58, 58, 114, 45, 120, 44, 111, 58, 58, 114, 45, 45]⟩, .string ⟨#[117, 58, 58, 114, 119, 45, 44, 117, 58, 53, 58, 114, 119, 120, 44, 103, 58, 58, 114, 45, 45, 44, 109, 58, 58, 114, 45, 45, 44, 111, 58, 58, 45, 45, 45]⟩, .string ⟨#[117, 58, 58, 114, 45, 45, 44, 103, 58, 58, 114, 119, 120, 44, 103, 58, 48, 58, 45, 119, 45, 44, 109, 58, 58, 45, 119, 120, 44, 111, 58, 58, 45, 45, 120]⟩, .string ⟨#[117, 58, 58, 45, 45, 45, 44, 117, 58, 48, 58, 45, 45, 45, 44, 117, 58, 50, 49, 52, 55, 52, 56, 51, 54, 52, 55, 58, 114, 45, 45, 44, 103, 58, 58, 45, 45, 45, 44, 103, 58, 57, 58, 45, 45, 120, 44, 109, 58, 58, 45, 45, 45, 44, 111, 58, 58, 114, 119, 120]⟩] 9)).alloc (.cells #[.int .i64 492, .int .i64 416, .int .i64 281, .int .i64 7] 3) = W0 at b0 g1 g2 ⊢
  have HB0 := Aside0.mk b0
  have z1 := blk_lt g1
  have z2 := blk_lt g2
  have c1 : W0.cell? ⟨w.heap.size, 1, none⟩ = some (.string ⟨#[117, 58, 58, 114, 119, 45, 44, 117, 58, 53, 58, 114, 119, 120, 44, 103, 58, 58, 114, 45, 45, 44, 109, 58, 58, 114, 45, 45, 44, 111, 58, 58, 45, 45, 45]⟩) := (blk_cell g1 1).trans rfl
  have c2 : W0.cell? ⟨w.heap.size + 1, 1, none⟩ = some (.int .i64 416) := (blk_cell g2 1).trans rfl
  clear g1 g2 b0
  refine (HP.out W0 (HG.out.below HB0.out)).mono ?_
  rintro e w1 ⟨A, c, rfl, hc, hC, hb1⟩
  have HC := Aside0.mk hC
  have HB1 := Aside0.mk (below_next HB0.out hb1)
  have d1 := (hb1.cell (p := ⟨w.heap.size, 1, none⟩) z1).trans c1
  have d2 := (hb1.cell (p := ⟨w.heap.size + 1, 1, none⟩) z2).trans c2
  have y1 := Nat.lt_of_lt_of_le z1 hb1.size
  have y2 := Nat.lt_of_lt_of_le z2 hb1.size
  clear hC hb1 c1 c2 z1 z2
  have hm := fun (W : World) (hb : Below w1.heap.size w1 W) => mode_any A c knownL1 W (Kd.C_below HC.out hb) hc (by decide) (by decide +kernel) (by decide +kernel) (by decide +kernel) (by decide +kernel)
  have ht := fun (W : World) (hb : Below w1.heap.size w1 W) => aclText_any A c knownL1 W ((HG.out.below HB1.out).below hb) (Kd.C_below HC.out hb) hc (may_parts known_may1).2.1 (may_parts known_may1).1 (may_parts known_may1).2.2
  have hy := fun (W : World) (hb : Below w1.heap.size w1 W) => aclMay_any A c knownL1 W (Kd.C_below HC.out hb) hc (by decide)
  simp only [known_mode1, known_len1] at hm
  simp only [known_join1, known_str1, known_len1] at ht
  simp only [known_may1, known_len1] at hy
  have HM := Aside0.mk hm
  have HT := Aside0.mk ht
  have HY := Aside0.mk hy
  clear hm ht hy HP
  have HA := Aside0.mk (fun (W : World) (hb : Below w1.heap.size w1 W) => awake_any W ((HG.out.below HB1.out).below hb))
  have HR := Aside0.mk (Below.refl w1.heap.size w1)
  go_wp2_with fail
  go_region_held3 (fun w' => w'.cell? ⟨w.heap.size, 1, none⟩ = some (.string ⟨#[117, 58, 58, 114, 119, 45, 44, 117, 58, 53, 58, 114, 119, 120, 44, 103, 58, 58, 114, 45, 45, 44, 109, 58, 58, 114, 45, 45, 44, 111, 58, 58, 45, 45, 45]⟩) ∧ w'.cell? ⟨w.heap.size + 1, 1, none⟩ = some (.int .i64 416) ∧ Aside0 (Below w1.heap.size w1 w'))
    (first
      | (go_keep; done)
      | exact ⟨d1, d2, ⟨below_drew HR.out⟩⟩
      | (go_split_ands
         refine ⟨?_, ?_, ?_⟩
         · (rw [hbq.cell (by have := hbw.size; simp; omega)]; assumption)
         · (rw [hbq.cell (by have := hbw.size; simp; omega)]; assumption)
         · exact ⟨below_next hbw hbq⟩))
    ((first
      | (go_at_call 12; go_split_ands; have hbw := Aside0.out (by assumption : Aside0 (Below w1.heap.size w1 _)); refine (HM.out _ hbw).mono ?_; rintro e w2 ⟨rfl, hbq⟩)
      | (go_at_call 13; go_split_ands; have hbw := Aside0.out (by assumption : Aside0 (Below w1.heap.size w1 _)); refine (HT.out _ hbw).mono ?_; rintro e w2 ⟨rfl, hbq⟩)
      | (go_at_call 10; go_split_ands; have hbw := Aside0.out (by assumption : Aside0 (Below w1.heap.size w1 _)); refine (HY.out _ hbw).mono ?_; rintro e w2 ⟨rfl, hbq⟩)
      | (go_at_call 11; go_split_ands; have hbw := Aside0.out (by assumption : Aside0 (Below w1.heap.size w1 _)); refine (HA.out _ hbw).mono ?_; rintro e w2 ⟨rfl, hbq⟩)))
  all_goals
    go_wp2_with fail
    go_ret
    exact ⟨rfl, below_next HB1.out (below_next hbw hbq)⟩
set_option maxHeartbeats 2000000 in
set_option maxRecDepth 100000 in
theorem known_walk2 (k : Int) (w : World) (hG : Good w) (h0 : 0 ≤ k ∧ k ≤ 255) (hk : k % 4 = 2) : Calls Tryd.prog 4 #[.int .u8 k] w fun e w' => e = .returned (.bool true) ∧ Below w.heap.size w w' := by
  have HG := Aside0.mk hG
  clear hG
  go_enter Tryd.func4, Tryd.ntmps4
  have hp := fun W hG => parsed_of (s := knownT2) (l := knownL2) (by decide) (parse_of known_map2 known_may2 known_join2) W hG
  rw [known_str2, known_len2] at hp
  have HP := Aside0.mk hp
  clear hp
  go_wp2_with fail
  obtain ⟨b0, g1, g2⟩ := known_worlds w
  generalize (w.alloc (.cells #[.string ⟨#[117, 58, 58, 114, 119, 120, 44, 103, 58, 58, 114, 45, 120, 44, 111, 58, 58, 114, 45, 45]⟩, .string ⟨#[117, 58, 58, 114, 119, 45, 44, 117, 58, 53, 58, 114, 119, 120, 44, 103, 58, 58, 114, 45, 45, 44, 109, 58, 58, 114, 45, 45, 44, 111, 58, 58, 45, 45, 45]⟩, .string ⟨#[117, 58, 58, 114, 45, 45, 44, 103, 58, 58, 114, 119, 120, 44, 103, 58, 48, 58, 45, 119, 45, 44, 109, 58, 58, 45, 119, 120, 44, 111, 58, 58, 45, 45, 120]⟩, .string ⟨#[117, 58, 58, 45, 45, 45, 44, 117, 58, 48, 58, 45, 45, 45, 44, 117, 58, 50, 49, 52, 55, 52, 56, 51, 54, 52, 55, 58, 114, 45, 45, 44, 103, 58, 58, 45, 45, 45, 44, 103, 58, 57, 58, 45, 45, 120, 44, 109, 58, 58, 45, 45, 45, 44, 111, 58, 58, 114, 119, 120]⟩] 9)).alloc (.cells #[.int .i64 492, .int .i64 416, .int .i64 281, .int .i64 7] 3) = W0 at b0 g1 g2 ⊢
  have HB0 := Aside0.mk b0
  have z1 := blk_lt g1
  have z2 := blk_lt g2
  have c1 : W0.cell? ⟨w.heap.size, 2, none⟩ = some (.string ⟨#[117, 58, 58, 114, 45, 45, 44, 103, 58, 58, 114, 119, 120, 44, 103, 58, 48, 58, 45, 119, 45, 44, 109, 58, 58, 45, 119, 120, 44, 111, 58, 58, 45, 45, 120]⟩) := (blk_cell g1 2).trans rfl
  have c2 : W0.cell? ⟨w.heap.size + 1, 2, none⟩ = some (.int .i64 281) := (blk_cell g2 2).trans rfl
  clear g1 g2 b0
  refine (HP.out W0 (HG.out.below HB0.out)).mono ?_
  rintro e w1 ⟨A, c, rfl, hc, hC, hb1⟩
  have HC := Aside0.mk hC
  have HB1 := Aside0.mk (below_next HB0.out hb1)
  have d1 := (hb1.cell (p := ⟨w.heap.size, 2, none⟩) z1).trans c1
  have d2 := (hb1.cell (p := ⟨w.heap.size + 1, 2, none⟩) z2).trans c2
  have y1 := Nat.lt_of_lt_of_le z1 hb1.size
  have y2 := Nat.lt_of_lt_of_le z2 hb1.size
  clear hC hb1 c1 c2 z1 z2
  have hm := fun (W : World) (hb : Below w1.heap.size w1 W) => mode_any A c knownL2 W (Kd.C_below HC.out hb) hc (by decide) (by decide +kernel) (by decide +kernel) (by decide +kernel) (by decide +kernel)
  have ht := fun (W : World) (hb : Below w1.heap.size w1 W) => aclText_any A c knownL2 W ((HG.out.below HB1.out).below hb) (Kd.C_below HC.out hb) hc (may_parts known_may2).2.1 (may_parts known_may2).1 (may_parts known_may2).2.2
  have hy := fun (W : World) (hb : Below w1.heap.size w1 W) => aclMay_any A c knownL2 W (Kd.C_below HC.out hb) hc (by decide)
  simp only [known_mode2, known_len2] at hm
  simp only [known_join2, known_str2, known_len2] at ht
  simp only [known_may2, known_len2] at hy
  have HM := Aside0.mk hm
  have HT := Aside0.mk ht
  have HY := Aside0.mk hy
  clear hm ht hy HP
  have HA := Aside0.mk (fun (W : World) (hb : Below w1.heap.size w1 W) => awake_any W ((HG.out.below HB1.out).below hb))
  have HR := Aside0.mk (Below.refl w1.heap.size w1)
  go_wp2_with fail
  go_region_held3 (fun w' => w'.cell? ⟨w.heap.size, 2, none⟩ = some (.string ⟨#[117, 58, 58, 114, 45, 45, 44, 103, 58, 58, 114, 119, 120, 44, 103, 58, 48, 58, 45, 119, 45, 44, 109, 58, 58, 45, 119, 120, 44, 111, 58, 58, 45, 45, 120]⟩) ∧ w'.cell? ⟨w.heap.size + 1, 2, none⟩ = some (.int .i64 281) ∧ Aside0 (Below w1.heap.size w1 w'))
    (first
      | (go_keep; done)
      | exact ⟨d1, d2, ⟨below_drew HR.out⟩⟩
      | (go_split_ands
         refine ⟨?_, ?_, ?_⟩
         · (rw [hbq.cell (by have := hbw.size; simp; omega)]; assumption)
         · (rw [hbq.cell (by have := hbw.size; simp; omega)]; assumption)
         · exact ⟨below_next hbw hbq⟩))
    ((first
      | (go_at_call 12; go_split_ands; have hbw := Aside0.out (by assumption : Aside0 (Below w1.heap.size w1 _)); refine (HM.out _ hbw).mono ?_; rintro e w2 ⟨rfl, hbq⟩)
      | (go_at_call 13; go_split_ands; have hbw := Aside0.out (by assumption : Aside0 (Below w1.heap.size w1 _)); refine (HT.out _ hbw).mono ?_; rintro e w2 ⟨rfl, hbq⟩)
      | (go_at_call 10; go_split_ands; have hbw := Aside0.out (by assumption : Aside0 (Below w1.heap.size w1 _)); refine (HY.out _ hbw).mono ?_; rintro e w2 ⟨rfl, hbq⟩)
      | (go_at_call 11; go_split_ands; have hbw := Aside0.out (by assumption : Aside0 (Below w1.heap.size w1 _)); refine (HA.out _ hbw).mono ?_; rintro e w2 ⟨rfl, hbq⟩)))
  all_goals
    go_wp2_with fail
    go_ret
    exact ⟨rfl, below_next HB1.out (below_next hbw hbq)⟩
set_option maxHeartbeats 2000000 in
set_option maxRecDepth 100000 in
theorem known_walk3 (k : Int) (w : World) (hG : Good w) (h0 : 0 ≤ k ∧ k ≤ 255) (hk : k % 4 = 3) : Calls Tryd.prog 4 #[.int .u8 k] w fun e w' => e = .returned (.bool true) ∧ Below w.heap.size w w' := by
  have HG := Aside0.mk hG
  clear hG
  go_enter Tryd.func4, Tryd.ntmps4
  have hp := fun W hG => parsed_of (s := knownT3) (l := knownL3) (by decide) (parse_of known_map3 known_may3 known_join3) W hG
  rw [known_str3, known_len3] at hp
  have HP := Aside0.mk hp
  clear hp
  go_wp2_with fail
  obtain ⟨b0, g1, g2⟩ := known_worlds w
  generalize (w.alloc (.cells #[.string ⟨#[117, 58, 58, 114, 119, 120, 44, 103, 58, 58, 114, 45, 120, 44, 111, 58, 58, 114, 45, 45]⟩, .string ⟨#[117, 58, 58, 114, 119, 45, 44, 117, 58, 53, 58, 114, 119, 120, 44, 103, 58, 58, 114, 45, 45, 44, 109, 58, 58, 114, 45, 45, 44, 111, 58, 58, 45, 45, 45]⟩, .string ⟨#[117, 58, 58, 114, 45, 45, 44, 103, 58, 58, 114, 119, 120, 44, 103, 58, 48, 58, 45, 119, 45, 44, 109, 58, 58, 45, 119, 120, 44, 111, 58, 58, 45, 45, 120]⟩, .string ⟨#[117, 58, 58, 45, 45, 45, 44, 117, 58, 48, 58, 45, 45, 45, 44, 117, 58, 50, 49, 52, 55, 52, 56, 51, 54, 52, 55, 58, 114, 45, 45, 44, 103, 58, 58, 45, 45, 45, 44, 103, 58, 57, 58, 45, 45, 120, 44, 109, 58, 58, 45, 45, 45, 44, 111, 58, 58, 114, 119, 120]⟩] 9)).alloc (.cells #[.int .i64 492, .int .i64 416, .int .i64 281, .int .i64 7] 3) = W0 at b0 g1 g2 ⊢
  have HB0 := Aside0.mk b0
  have z1 := blk_lt g1
  have z2 := blk_lt g2
  have c1 : W0.cell? ⟨w.heap.size, 3, none⟩ = some (.string ⟨#[117, 58, 58, 45, 45, 45, 44, 117, 58, 48, 58, 45, 45, 45, 44, 117, 58, 50, 49, 52, 55, 52, 56, 51, 54, 52, 55, 58, 114, 45, 45, 44, 103, 58, 58, 45, 45, 45, 44, 103, 58, 57, 58, 45, 45, 120, 44, 109, 58, 58, 45, 45, 45, 44, 111, 58, 58, 114, 119, 120]⟩) := (blk_cell g1 3).trans rfl
  have c2 : W0.cell? ⟨w.heap.size + 1, 3, none⟩ = some (.int .i64 7) := (blk_cell g2 3).trans rfl
  clear g1 g2 b0
  refine (HP.out W0 (HG.out.below HB0.out)).mono ?_
  rintro e w1 ⟨A, c, rfl, hc, hC, hb1⟩
  have HC := Aside0.mk hC
  have HB1 := Aside0.mk (below_next HB0.out hb1)
  have d1 := (hb1.cell (p := ⟨w.heap.size, 3, none⟩) z1).trans c1
  have d2 := (hb1.cell (p := ⟨w.heap.size + 1, 3, none⟩) z2).trans c2
  have y1 := Nat.lt_of_lt_of_le z1 hb1.size
  have y2 := Nat.lt_of_lt_of_le z2 hb1.size
  clear hC hb1 c1 c2 z1 z2
  have hm := fun (W : World) (hb : Below w1.heap.size w1 W) => mode_any A c knownL3 W (Kd.C_below HC.out hb) hc (by decide) (by decide +kernel) (by decide +kernel) (by decide +kernel) (by decide +kernel)
  have ht := fun (W : World) (hb : Below w1.heap.size w1 W) => aclText_any A c knownL3 W ((HG.out.below HB1.out).below hb) (Kd.C_below HC.out hb) hc (may_parts known_may3).2.1 (may_parts known_may3).1 (may_parts known_may3).2.2
  have hy := fun (W : World) (hb : Below w1.heap.size w1 W) => aclMay_any A c knownL3 W (Kd.C_below HC.out hb) hc (by decide)
  simp only [known_mode3, known_len3] at hm
  simp only [known_join3, known_str3, known_len3] at ht
  simp only [known_may3, known_len3] at hy
  have HM := Aside0.mk hm
  have HT := Aside0.mk ht
  have HY := Aside0.mk hy
  clear hm ht hy HP
  have HA := Aside0.mk (fun (W : World) (hb : Below w1.heap.size w1 W) => awake_any W ((HG.out.below HB1.out).below hb))
  have HR := Aside0.mk (Below.refl w1.heap.size w1)
  go_wp2_with fail
  go_region_held3 (fun w' => w'.cell? ⟨w.heap.size, 3, none⟩ = some (.string ⟨#[117, 58, 58, 45, 45, 45, 44, 117, 58, 48, 58, 45, 45, 45, 44, 117, 58, 50, 49, 52, 55, 52, 56, 51, 54, 52, 55, 58, 114, 45, 45, 44, 103, 58, 58, 45, 45, 45, 44, 103, 58, 57, 58, 45, 45, 120, 44, 109, 58, 58, 45, 45, 45, 44, 111, 58, 58, 114, 119, 120]⟩) ∧ w'.cell? ⟨w.heap.size + 1, 3, none⟩ = some (.int .i64 7) ∧ Aside0 (Below w1.heap.size w1 w'))
    (first
      | (go_keep; done)
      | exact ⟨d1, d2, ⟨below_drew HR.out⟩⟩
      | (go_split_ands
         refine ⟨?_, ?_, ?_⟩
         · (rw [hbq.cell (by have := hbw.size; simp; omega)]; assumption)
         · (rw [hbq.cell (by have := hbw.size; simp; omega)]; assumption)
         · exact ⟨below_next hbw hbq⟩))
    ((first
      | (go_at_call 12; go_split_ands; have hbw := Aside0.out (by assumption : Aside0 (Below w1.heap.size w1 _)); refine (HM.out _ hbw).mono ?_; rintro e w2 ⟨rfl, hbq⟩)
      | (go_at_call 13; go_split_ands; have hbw := Aside0.out (by assumption : Aside0 (Below w1.heap.size w1 _)); refine (HT.out _ hbw).mono ?_; rintro e w2 ⟨rfl, hbq⟩)
      | (go_at_call 10; go_split_ands; have hbw := Aside0.out (by assumption : Aside0 (Below w1.heap.size w1 _)); refine (HY.out _ hbw).mono ?_; rintro e w2 ⟨rfl, hbq⟩)
      | (go_at_call 11; go_split_ands; have hbw := Aside0.out (by assumption : Aside0 (Below w1.heap.size w1 _)); refine (HA.out _ hbw).mono ?_; rintro e w2 ⟨rfl, hbq⟩)))
  all_goals
    go_wp2_with fail
    go_ret
    exact ⟨rfl, below_next HB1.out (below_next hbw hbq)⟩
theorem known_walk (k : Int) (w : World) (hG : Good w) (h0 : 0 ≤ k ∧ k ≤ 255) : Calls Tryd.prog 4 #[.int .u8 k] w fun e w' => e = .returned (.bool true) ∧ Below w.heap.size w w' := by
  have hk : k % 4 = 0 ∨ k % 4 = 1 ∨ k % 4 = 2 ∨ k % 4 = 3 := by omega
  rcases hk with hk | hk | hk | hk
  · exact known_walk0 k w hG h0 hk
  · exact known_walk1 k w hG h0 hk
  · exact known_walk2 k w hG h0 hk
  · exact known_walk3 k w hG h0 hk
end Go.Proofs.YtejgnnhmeolphaaDoor
