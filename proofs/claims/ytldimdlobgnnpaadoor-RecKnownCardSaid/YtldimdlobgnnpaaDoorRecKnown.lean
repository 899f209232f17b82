/- RecKnown: records that all know. -/
import Derived.Test.YtldimdlobgnnpaaDoorRecLaw
set_option linter.unusedVariables false
set_option linter.unusedSimpArgs false
namespace Go.Proofs.YtldimdlobgnnpaaDoor
open Go.RowKit Go.Proofs.YtldimdlobgnnpaaDoorW.PrintWords

def kT : List (List UInt8) := [[54, 32, 97, 61, 98, 10], [56, 32, 97, 61, 98, 99, 100, 10], [57, 32, 97, 61, 98, 99, 100, 101, 10], [49, 49, 32, 97, 61, 98, 99, 100, 101, 102, 10], [49, 50, 32, 97, 61, 98, 99, 100, 101, 102, 103, 10], [53, 32, 97, 61, 10], [51, 48, 32, 109, 116, 105, 109, 101, 61, 49, 51, 50, 49, 55, 49, 49, 55, 55, 53, 46, 48, 49, 48, 48, 48, 48, 48, 48, 48, 10], [55, 32, 97, 61, 61, 98, 10]]
def kK : List (List UInt8) := [[97], [97], [97], [97], [97], [97], [109, 116, 105, 109, 101], [97]]
def kV : List (List UInt8) := [[98], [98, 99, 100], [98, 99, 100, 101], [98, 99, 100, 101, 102], [98, 99, 100, 101, 102, 103], [], [49, 51, 50, 49, 55, 49, 49, 55, 55, 53, 46, 48, 49, 48, 48, 48, 48, 48, 48, 48], [61, 98]]
def kB : List (List UInt8) := [[55, 32, 97, 61, 98, 10], [53, 32, 97, 61, 98, 10], [54, 32, 97, 61, 98, 32], [48, 54, 32, 97, 61, 98, 10], [52, 32, 61, 10], [49, 48, 32, 97, 61, 98, 99, 100, 101, 10, 10], [51, 32, 97, 10], [45, 54, 32, 97, 61, 98, 10]]
def aT : Array Value := #[.string ⟨#[54, 32, 97, 61, 98, 10]⟩, .string ⟨#[56, 32, 97, 61, 98, 99, 100, 10]⟩, .string ⟨#[57, 32, 97, 61, 98, 99, 100, 101, 10]⟩, .string ⟨#[49, 49, 32, 97, 61, 98, 99, 100, 101, 102, 10]⟩, .string ⟨#[49, 50, 32, 97, 61, 98, 99, 100, 101, 102, 103, 10]⟩, .string ⟨#[53, 32, 97, 61, 10]⟩, .string ⟨#[51, 48, 32, 109, 116, 105, 109, 101, 61, 49, 51, 50, 49, 55, 49, 49, 55, 55, 53, 46, 48, 49, 48, 48, 48, 48, 48, 48, 48, 10]⟩, .string ⟨#[55, 32, 97, 61, 61, 98, 10]⟩]
def aK : Array Value := #[.string ⟨#[97]⟩, .string ⟨#[97]⟩, .string ⟨#[97]⟩, .string ⟨#[97]⟩, .string ⟨#[97]⟩, .string ⟨#[97]⟩, .string ⟨#[109, 116, 105, 109, 101]⟩, .string ⟨#[97]⟩]
def aV : Array Value := #[.string ⟨#[98]⟩, .string ⟨#[98, 99, 100]⟩, .string ⟨#[98, 99, 100, 101]⟩, .string ⟨#[98, 99, 100, 101, 102]⟩, .string ⟨#[98, 99, 100, 101, 102, 103]⟩, .string ⟨#[]⟩, .string ⟨#[49, 51, 50, 49, 55, 49, 49, 55, 55, 53, 46, 48, 49, 48, 48, 48, 48, 48, 48, 48]⟩, .string ⟨#[61, 98]⟩]
def aB : Array Value := #[.string ⟨#[55, 32, 97, 61, 98, 10]⟩, .string ⟨#[53, 32, 97, 61, 98, 10]⟩, .string ⟨#[54, 32, 97, 61, 98, 32]⟩, .string ⟨#[48, 54, 32, 97, 61, 98, 10]⟩, .string ⟨#[52, 32, 61, 10]⟩, .string ⟨#[49, 48, 32, 97, 61, 98, 99, 100, 101, 10, 10]⟩, .string ⟨#[51, 32, 97, 10]⟩, .string ⟨#[45, 54, 32, 97, 61, 98, 10]⟩]
theorem known_at : (List.range 8).all (fun i => decide (readL (kT.getD i [] ++ [121]) = some (kK.getD i [], kV.getD i [], (kT.getD i []).length)) && decide (putR (kK.getD i []) (kV.getD i []) = kT.getD i []) && decide (allL (kB.getD i []) = none) && decide ((kT.getD i []).length ≤ 100) && decide ((kB.getD i []).length ≤ 100)) = true := by kernel_rfl
theorem known_is (i : Nat) (h : i < 8) : readL (kT.getD i [] ++ [121]) = some (kK.getD i [], kV.getD i [], (kT.getD i []).length) ∧ putR (kK.getD i []) (kV.getD i []) = kT.getD i [] ∧ allL (kB.getD i []) = none ∧ (kT.getD i []).length ≤ 100 ∧ (kB.getD i []).length ≤ 100 := by
  have := List.all_eq_true.1 known_at i (List.mem_range.2 h)
  simp only [Bool.and_eq_true, decide_eq_true_eq] at this
  obtain ⟨⟨⟨⟨a, b⟩, c⟩, d⟩, e⟩ := this
  exact ⟨a, b, c, d, e⟩
theorem cell_is {C : Array Value} {L : List (List UInt8)} (h : C = (L.map fun x => Value.string (mkS x)).toArray) (i : Nat) (hi : i < L.length) : C[i]? = some (.string (mkS (L.getD i []))) := by
  subst h
  simp [List.getD_eq_getElem?_getD, List.getElem?_eq_getElem hi, hi]
theorem aT_is : aT = (kT.map fun x => Value.string (mkS x)).toArray := rfl
theorem aK_is : aK = (kK.map fun x => Value.string (mkS x)).toArray := rfl
theorem aV_is : aV = (kV.map fun x => Value.string (mkS x)).toArray := rfl
theorem aB_is : aB = (kB.map fun x => Value.string (mkS x)).toArray := rfl
/-- The three rows that stand first. -/
theorem known_worlds (w : World) : ∃ W, W = ((w.alloc (.cells #[.string ⟨#[54, 32, 97, 61, 98, 10]⟩, .string ⟨#[56, 32, 97, 61, 98, 99, 100, 10]⟩, .string ⟨#[57, 32, 97, 61, 98, 99, 100, 101, 10]⟩, .string ⟨#[49, 49, 32, 97, 61, 98, 99, 100, 101, 102, 10]⟩, .string ⟨#[49, 50, 32, 97, 61, 98, 99, 100, 101, 102, 103, 10]⟩, .string ⟨#[53, 32, 97, 61, 10]⟩, .string ⟨#[51, 48, 32, 109, 116, 105, 109, 101, 61, 49, 51, 50, 49, 55, 49, 49, 55, 55, 53, 46, 48, 49, 48, 48, 48, 48, 48, 48, 48, 10]⟩, .string ⟨#[55, 32, 97, 61, 61, 98, 10]⟩] 9)).alloc (.cells #[.string ⟨#[97]⟩, .string ⟨#[97]⟩, .string ⟨#[97]⟩, .string ⟨#[97]⟩, .string ⟨#[97]⟩, .string ⟨#[97]⟩, .string ⟨#[109, 116, 105, 109, 101]⟩, .string ⟨#[97]⟩] 9)).alloc (.cells #[.string ⟨#[98]⟩, .string ⟨#[98, 99, 100]⟩, .string ⟨#[98, 99, 100, 101]⟩, .string ⟨#[98, 99, 100, 101, 102]⟩, .string ⟨#[98, 99, 100, 101, 102, 103]⟩, .string ⟨#[]⟩, .string ⟨#[49, 51, 50, 49, 55, 49, 49, 55, 55, 53, 46, 48, 49, 48, 48, 48, 48, 48, 48, 48]⟩, .string ⟨#[61, 98]⟩] 9) ∧
    W.heap[w.heap.size]? = some (.cells aT 9 (0, 0)) ∧ W.heap[w.heap.size + 1]? = some (.cells aK 9 (0, 0)) ∧ W.heap[w.heap.size + 1 + 1]? = some (.cells aV 9 (0, 0)) ∧ Below w.heap.size w W := by
  obtain ⟨h1, h2, h3⟩ := heap_three w (.cells aT 9) (.cells aK 9) (.cells aV 9)
  exact ⟨_, rfl, h1, h2, h3, below_alloc (below_alloc (below_alloc (Below.refl _ _) _) _) _⟩
theorem alloc_drew_lt (w : World) (o : Obj) : w.heap.size < (w.alloc o).drew.heap.size := by
  show w.heap.size < (w.heap.push o).size
  simp
/-- What stands behind the record and the bad texts. -/
theorem known_worlds2 (w1 : World) (k v : ByteArray) : ∃ W, W = (w1.alloc (.cells #[.string k, .string v] 25)).alloc (.cells #[.string ⟨#[55, 32, 97, 61, 98, 10]⟩, .string ⟨#[53, 32, 97, 61, 98, 10]⟩, .string ⟨#[54, 32, 97, 61, 98, 32]⟩, .string ⟨#[48, 54, 32, 97, 61, 98, 10]⟩, .string ⟨#[52, 32, 61, 10]⟩, .string ⟨#[49, 48, 32, 97, 61, 98, 99, 100, 101, 10, 10]⟩, .string ⟨#[51, 32, 97, 10]⟩, .string ⟨#[45, 54, 32, 97, 61, 98, 10]⟩] 9) ∧
    W.heap[w1.heap.size]? = some (.cells #[.string k, .string v] 25 (0, 0)) ∧ W.heap[w1.heap.size + 1]? = some (.cells aB 9 (0, 0)) ∧ Below w1.heap.size w1 W := by
  obtain ⟨h1, h2⟩ := heap_two w1 (.cells #[.string k, .string v] 25) (.cells aB 9)
  exact ⟨_, rfl, h1, h2, below_alloc (below_alloc (Below.refl _ _) _) _⟩
theorem eqA_rec (d : Nat) (w : World) (x0 y0 : ByteArray) (x1 y1 : ByteArray) :
    (Op.equalIn (d + 2) 25 (.agg #[.string x0, .string x1]) (.agg #[.string y0, .string y1])).run Tryd.prog w = .ok (x0.toList == y0.toList && (x1.toList == y1.toList)) w := by
  refine eqA_of Tryd.underlying25 (by kernel_rfl) ?_
  refine eqf_cons (by rfl) (by go_simp; rfl) (by go_simp; rfl) (by go_simp) ?_
  exact eqf_last (by rfl) (by go_simp; rfl) (by go_simp; rfl) (by go_simp)
attribute [local go_sem high] eqA_rec
set_option maxHeartbeats 4000000 in
set_option maxRecDepth 100000 in
theorem recKnown_walk (x : Int) (w : World) (hG : Good w) (h0 : 0 ≤ x ∧ x ≤ 255) : Calls Tryd.prog 6 #[.int .u8 x] w fun e w' => e = .returned (.bool true) ∧ Below w.heap.size w w' := by
  obtain ⟨i, hi⟩ : ∃ i : Nat, (i : Int) = x % 8 := ⟨(x % 8).toNat, by omega⟩
  have hi8 : i < 8 := by omega
  obtain ⟨f1, f2, f3, f4, f5⟩ := known_is i hi8
  have e1 := cell_is aT_is i (by simpa [kT] using hi8)
  have e2 := cell_is aK_is i (by simpa [kK] using hi8)
  have e3 := cell_is aV_is i (by simpa [kV] using hi8)
  have e4 := cell_is aB_is i (by simpa [kB] using hi8)
  generalize kT.getD i [] = T at f1 f2 f4 e1
  generalize kK.getD i [] = k at f1 f2 e2
  generalize kV.getD i [] = v at f1 f2 e3
  generalize kB.getD i [] = B at f3 f5 e4
  have HG := Aside0.mk hG
  have HI := Aside0.mk hi
  clear hG hi
  have hrem : x % 8 = (i : Int) := HI.out.symm
  go_enter Tryd.func6, Tryd.ntmps6
  go_upto_region 5 with (fail)
  obtain ⟨W0, hW0, b1, b2, b3, hb0⟩ := known_worlds w
  rw [← hW0]
  rw [hrem]
  have HB0 := Aside0.mk hb0
  clear hW0 hb0
  have c1 : W0.cell? ⟨w.heap.size, i, none⟩ = some (.string (mkS T)) := (blk_cell b1 i).trans e1
  have c2 : W0.cell? ⟨w.heap.size + 1, i, none⟩ = some (.string (mkS k)) := (blk_cell b2 i).trans e2
  have c3 : W0.cell? ⟨w.heap.size + 1 + 1, i, none⟩ = some (.string (mkS v)) := (blk_cell b3 i).trans e3
  have z1 := blk_lt b1
  have z2 := blk_lt b2
  have z3 := blk_lt b3
  clear b1 b2 b3 e1 e2 e3 hrem
  obtain ⟨t1, ht1⟩ : ∃ t, [120] ++ T = t := ⟨_, rfl⟩
  obtain ⟨t2, ht2⟩ : ∃ t, t1 ++ [121] = t := ⟨_, rfl⟩
  have a1 := fun W => str_add (P := Tryd.prog) (s := ⟨#[120]⟩) (t := mkS T) (a := [120]) (b := T) rfl rfl ht1 (by rw [← ht1]; simp; omega) W
  have a2 := fun W => str_add (P := Tryd.prog) (s := mkS t1) (t := ⟨#[121]⟩) (a := t1) (b := [121]) rfl rfl ht2 (by rw [← ht2, ← ht1]; simp; omega) W
  have hget := fun w hG => get_ok t2 k v 1 T.length w hG (by rw [← ht2, ← ht1]; simp) (by rw [← ht2, ← ht1]; simp; omega) (by rw [← ht2, ← ht1]; exact f1)
  have HGET := Aside0.mk hget
  clear hget ht1 ht2
  have hi8z : (i : Int) < 8 := by omega
  go_wp2_with fail
  refine (HGET.out _ (HG.out.below HB0.out)).mono ?_
  rintro e w1 ⟨rfl, hb1⟩
  simp only [gotV]
  go_upto_region 7 with (fail)
  obtain ⟨W2, hW2, b4, b5, hb2⟩ := known_worlds2 w1 (mkS k) (mkS v)
  rw [← hW2]
  have HB2 := Aside0.mk (below_next (below_next HB0.out hb1) hb2)
  have k1 := (hb2.cell (p := ⟨_, i, none⟩) (Nat.lt_of_lt_of_le z1 hb1.size)).trans ((hb1.cell (p := ⟨_, i, none⟩) z1).trans c1)
  have k2 := (hb2.cell (p := ⟨_, i, none⟩) (Nat.lt_of_lt_of_le z2 hb1.size)).trans ((hb1.cell (p := ⟨_, i, none⟩) z2).trans c2)
  have k3 := (hb2.cell (p := ⟨_, i, none⟩) (Nat.lt_of_lt_of_le z3 hb1.size)).trans ((hb1.cell (p := ⟨_, i, none⟩) z3).trans c3)
  have y1 := lt_of_cell k1
  have y2 := lt_of_cell k2
  have y3 := lt_of_cell k3
  have k4 : W2.cell? ⟨w1.heap.size, 0, none⟩ = some (.string (mkS k)) := blk_cell b4 0
  have k5 : W2.cell? ⟨w1.heap.size, 1, none⟩ = some (.string (mkS v)) := blk_cell b4 1
  have k6 : W2.cell? ⟨w1.heap.size + 1, i, none⟩ = some (.string (mkS B)) := (blk_cell b5 i).trans e4
  have y4 := blk_lt b4
  obtain ⟨n1, hn1⟩ : ∃ n1, w1.heap.size = n1 := ⟨_, rfl⟩
  rw [hn1] at k4 k5 k6 y4 ⊢
  have hall := fun (W : World) (hG : Good W) => all_is B W hG (by omega)
  rw [show allP B = ([], 4) by unfold allP; rw [f3]] at hall
  have HALL := Aside0.mk hall
  clear hall hW2 b4 b5 hb1 hb2 hn1 c1 c2 c3 z1 z2 z3 e4
  go_wp2_with fail
  refine (HALL.out _ (HG.out.below HB2.out)).mono ?_
  rintro e w3 ⟨Ax, cx, rfl, hcx, hCx, hb3⟩
  have HB3 := Aside0.mk (below_next HB2.out hb3)
  have q1 := (hb3.cell (p := ⟨_, i, none⟩) y1).trans k1
  have q2 := (hb3.cell (p := ⟨_, i, none⟩) y2).trans k2
  have q3 := (hb3.cell (p := ⟨_, i, none⟩) y3).trans k3
  have q4 := (hb3.cell (p := ⟨_, 0, none⟩) y4).trans k4
  have q5 := (hb3.cell (p := ⟨_, 1, none⟩) y4).trans k5
  clear hb3 k1 k2 k3 k4 k5 k6 y1 y2 y3 y4 hcx hCx
  go_wp2_with fail
  have HR0 := Aside0.mk (Below.refl w3.heap.size w3)
  have HG3 := Aside0.mk (HG.out.below HB3.out)
  have x1 := lt_of_cell q1
  have KP := Aside0.mk (show ∀ W, Below w3.heap.size w3 W → W.cell? ⟨w.heap.size, i, none⟩ = some (.string (mkS T)) ∧ Aside0 (Below w3.heap.size w3 W) from fun W hb => ⟨(hb.cell (p := ⟨_, i, none⟩) x1).trans q1, ⟨hb⟩⟩)
  have hend := fun w => get_end T w (by omega)
  have HEND := Aside0.mk hend
  clear hend
  go_region_held3 (fun W => W.cell? ⟨w.heap.size, i, none⟩ = some (.string (mkS T)) ∧ Aside0 (Below w3.heap.size w3 W))
    (first
      | exact KP.out _ (below_drew HR0.out)
      | exact KP.out _ hbq
      | exact KP.out _ (below_alloc hbq _)
      | exact KP.out _ (below_drew (below_alloc HR0.out _))
      | exact KP.out _ (below_set (below_set hbq (Nat.le_refl _)) (Nat.le_refl _)))
    ((go_split_ands
      have hbw := Aside0.out (by assumption : Aside0 (Below w3.heap.size w3 _))
      first
      | (go_at_call 10; (with_reducible refine (HEND.out ((w3.alloc (.cells #[.string ⟨#[]⟩, .string ⟨#[]⟩] 25)).drew)).mono ?_); rintro e wp ⟨rfl, hbp⟩; have hbq := below_next hbw hbp; have hn := (hbp.block w3.heap.size (alloc_drew_lt w3 _)).trans (heap_alloc_new w3 (.cells #[.string ⟨#[]⟩, .string ⟨#[]⟩] 25)); have hn0 := blk_cell hn 0; have hn1 := blk_cell hn 1; have hf0 := blk_frozen hn 0; have hf1 := blk_frozen hn 1; have hnl := blk_lt hn; simp only [gotV])
      | (go_at_call 10; refine (HEND.out _).mono ?_; rintro e wp ⟨rfl, hbp⟩; have hbq := below_next hbw hbp; simp only [gotV])))
  all_goals
    go_upto_region 10 with (go_at_call 10; refine (get_arg T (-1) _ (.inl (by decide))).mono ?_; rintro e w9 ⟨rfl, hb9⟩; simp only [gotV])
    have hb8 := below_next (w := w3) (w1 := _) (w2 := w9) (by first | exact below_alloc hbq _ | exact below_set (below_set hbq (Nat.le_refl _)) (Nat.le_refl _)) hb9
    have u1 := (hb8.cell (p := ⟨_, i, none⟩) x1).trans q1
    have u2 := (hb8.cell (p := ⟨_, i, none⟩) (lt_of_cell q2)).trans q2
    have u3 := (hb8.cell (p := ⟨_, i, none⟩) (lt_of_cell q3)).trans q3
    have u4 := (hb8.cell (p := ⟨_, 0, none⟩) (lt_of_cell q4)).trans q4
    have u5 := (hb8.cell (p := ⟨_, 1, none⟩) (lt_of_cell q5)).trans q5
    have KQ := Aside0.mk (show ∀ W, Below w9.heap.size w9 W → W.cell? ⟨w.heap.size, i, none⟩ = some (.string (mkS T)) ∧ W.cell? ⟨w.heap.size + 1, i, none⟩ = some (.string (mkS k)) ∧ W.cell? ⟨w.heap.size + 1 + 1, i, none⟩ = some (.string (mkS v)) ∧ W.cell? ⟨n1, 0, none⟩ = some (.string (mkS k)) ∧ W.cell? ⟨n1, 1, none⟩ = some (.string (mkS v)) ∧ Aside0 (Below w9.heap.size w9 W) from fun W hb =>
      ⟨(hb.cell (p := ⟨_, i, none⟩) (lt_of_cell u1)).trans u1, (hb.cell (p := ⟨_, i, none⟩) (lt_of_cell u2)).trans u2, (hb.cell (p := ⟨_, i, none⟩) (lt_of_cell u3)).trans u3, (hb.cell (p := ⟨_, 0, none⟩) (lt_of_cell u4)).trans u4, (hb.cell (p := ⟨_, 1, none⟩) (lt_of_cell u5)).trans u5, ⟨hb⟩⟩)
    have HB9 := Aside0.mk (below_next HB3.out hb8)
    have HS9 := Aside0.mk (below_alloc (Below.refl w9.heap.size w9) (.cells #[.string (mkS []), .string (mkS [])] 25))
    have HG9 := Aside0.mk (HG.out.below HB9.out)
    obtain ⟨n9, hn9⟩ : ∃ n9, w9.heap.size = n9 := ⟨_, rfl⟩
    generalize w9.alloc (.cells #[.string (mkS []), .string (mkS [])] 25) = W9 at HS9 ⊢
    clear hb8 hb9 u1 u2 u3 u4 u5 q1 q2 q3 q4 q5 KP HR0 hbw hbq a1 a2 HGET HALL HEND
    have hw1 : IntKind.i64.wrap (1 + (T.length : Int)) = 1 + (T.length : Int) := by rw [IntKind.wrap_i64]; omega
    have HPUT := Aside0.mk (putR_is k v T f2)
    have hkv : k.length + v.length ≤ 1000000 := by
      have h1 := rest_le k v
      have h2 := read_sound f1
      rw [restL_len, h2.2.2.2] at h1
      omega
    clear f1 f2 f3
    go_region_held3 (fun W => W.cell? ⟨w.heap.size, i, none⟩ = some (.string (mkS T)) ∧ W.cell? ⟨w.heap.size + 1, i, none⟩ = some (.string (mkS k)) ∧ W.cell? ⟨w.heap.size + 1 + 1, i, none⟩ = some (.string (mkS v)) ∧ W.cell? ⟨n1, 0, none⟩ = some (.string (mkS k)) ∧ W.cell? ⟨n1, 1, none⟩ = some (.string (mkS v)) ∧ Aside0 (Below w9.heap.size w9 W))
      (first
        | exact KQ.out _ (below_drew HS9.out)
        | exact KQ.out _ hbq)
      ((go_split_ands
        have hbw := Aside0.out (by assumption : Aside0 (Below w9.heap.size w9 _))
        first
        | (go_at_call 8; refine (HPUT.out _ (HG9.out.below hbw) hkv).mono ?_; rintro e wp ⟨rfl, hbp⟩; have hbq := below_next hbw hbp)
        | (go_at_call 11; refine (err_any _ _).mono ?_; rintro e wp ⟨rfl, rfl⟩; have hbq := hbw)
        | (go_at_call 13; refine (awake_any _ (HG9.out.below hbw)).mono ?_; rintro e wp ⟨rfl, hbp⟩; have hbq := below_next hbw hbp)))
  all_goals
    go_wp2_with fail
    go_ret
    exact ⟨rfl, below_next HB9.out hbq⟩
end Go.Proofs.YtldimdlobgnnpaaDoor
