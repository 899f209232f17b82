/- The statements' helper Make. -/
import Derived.Test.YtpmiddhdgidimaaDoorHeadLawText
import Derived.Test.YtpmiddhdgidimaaDoorHeadCatch
import Derived.Test.YtpmiddhdgidimaaDoorHeadCells
set_option linter.unusedVariables false
set_option linter.unusedSimpArgs false
namespace Go.Proofs.YtpmiddhdgidimaaDoor
open Go.RowKit Go.Proofs.YtpmiddhdgidimaaDoorW.PrintWords

/-- The numbers that a slice holds. -/
structure NumsAt (w : World) (A : Option Addr) (len : Nat) (zs : List Int) : Prop where
  bound : len ≤ 140737488351232
  cell : ∀ i, i < len → ∃ x, A = some x ∧ x.block < w.heap.size ∧ w.cell? (x.add i) = some (.int .u32 (zs.getD i 0)) ∧ 0 ≤ zs.getD i 0 ∧ zs.getD i 0 ≤ 4294967295
theorem add_block (x : Addr) (i : Nat) : (x.add i).block = x.block := by unfold Addr.add; split <;> rfl
theorem NumsAt.below {w w' : World} {A : Option Addr} {len : Nat} {zs : List Int} (h : NumsAt w A len zs) (hb : Below w.heap.size w w') : NumsAt w' A len zs :=
  ⟨h.bound, fun i hi => by
    obtain ⟨x, h1, h2, h3, h4⟩ := h.cell i hi
    exact ⟨x, h1, Nat.lt_of_lt_of_le h2 hb.size, (hb.cell (p := x.add i) (by rw [add_block]; exact h2)).trans h3, h4⟩⟩
def numK (len : Nat) (zs : List Int) (i : Nat) : Int := if i < len ∧ i < 7 then zs.getD i 0 else 0
theorem numK_nums {w : World} {A : Option Addr} {len : Nat} {zs : List Int} (h : NumsAt w A len zs) : Nums (numK len zs) := ⟨fun i => by
  unfold numK
  split
  · rename_i hi
    obtain ⟨x, _, _, _, h4⟩ := h.cell i hi.1
    exact h4
  · omega⟩
/-- k while the loop fills it. -/
def kTo (len : Nat) (zs : List Int) (j i : Nat) : Int := if i < j then numK len zs i else 0
def kCells (f : Nat → Int) : Array Value := #[.int .i64 (f 0), .int .i64 (f 1), .int .i64 (f 2), .int .i64 (f 3), .int .i64 (f 4), .int .i64 (f 5), .int .i64 (f 6)]
theorem kTo_step (len : Nat) (zs : List Int) (j : Nat) (h : j < 7) (hl : j < len) : (kCells (kTo len zs j)).setIfInBounds j (.int .i64 (zs.getD j 0)) = kCells (kTo len zs (j + 1)) := by
  have hn : numK len zs j = zs.getD j 0 := by unfold numK; rw [if_pos ⟨hl, h⟩]
  have : j = 0 ∨ j = 1 ∨ j = 2 ∨ j = 3 ∨ j = 4 ∨ j = 5 ∨ j = 6 := by omega
  rcases this with rfl | rfl | rfl | rfl | rfl | rfl | rfl <;> simp [kCells, kTo, hn]
theorem kTo_all (len : Nat) (zs : List Int) (j : Nat) (h : j = 7 ∨ len ≤ j) : kCells (kTo len zs j) = kCells (numK len zs) := by
  have : ∀ i, i < 7 → kTo len zs j i = numK len zs i := by
    intro i hi
    unfold kTo
    split
    · rfl
    · unfold numK; rw [if_neg (by omega)]
  unfold kCells
  rw [this 0 (by decide), this 1 (by decide), this 2 (by decide), this 3 (by decide), this 4 (by decide), this 5 (by decide), this 6 (by decide)]
theorem info_int : (Tryd.prog.info? 3).map (fun i => (i.zero, i.size, i.bytes)) = some (some (.int .i64 0), 1, 8) := by kernel_rfl
theorem made_seven : madeCells #[Value.int .i64 0] 7 = kCells (kTo 0 [] 0) := by
  apply Array.toList_inj.1
  rw [toList_madeCells_one]
  rfl
theorem make_seven (W : World) : (Instr.makeSlice 44 (.int .i64 7) (.int .i64 7)).run Tryd.prog W = .ok (.slice (some ⟨W.heap.size, 0, none⟩) 7 7) (W.alloc (.cells (kCells (kTo 0 [] 0)) 3)) := by
  rw [← show madeCells #[Value.int .i64 0] 7 = kCells (kTo 0 [] 0) from made_seven]
  exact run_make_row' (P := Tryd.prog) 44 3 (.int .i64 0) 8 Tryd.underlying44 info_int rfl .i64 .i64 7 (by omega) (by omega) W
theorem kTo_zero (len : Nat) (zs : List Int) : kCells (kTo len zs 0) = kCells (kTo 0 [] 0) := by simp [kCells, kTo]
theorem kCells_at (f : Nat → Int) (j : Nat) (h : j < 7) : (kCells f)[j]? = some (.int .i64 (f j)) := by
  have : j = 0 ∨ j = 1 ∨ j = 2 ∨ j = 3 ∨ j = 4 ∨ j = 5 ∨ j = 6 := by omega
  rcases this with rfl | rfl | rfl | rfl | rfl | rfl | rfl <;> rfl
set_option maxRecDepth 100000 in
theorem make_res (p : Nat) (x0 x1 x2 x3 x4 x5 x6 x7 x8 x9 x10 x11 x12 : Value) (tmps : Array Value) (W : World) (t8 : tmps.getD 8 undef = .pointer (some ⟨p, 0, none⟩))
    (H : W.heap[p]? = some (.cells #[x0, x1, x2, x3, x4, x5, x6, x7, x8, x9, x10, x11, x12] 26)) :
    (results Tryd.f9 tmps).run Tryd.prog W = .ok (.agg #[x0, x1, x2, x3, x4, x5, x6, x7, x8, x9, x10, x11, x12]) W := by
  have c0 : W.cell? ⟨p, 0, none⟩ = some x0 := blk_cell H 0
  have c1 : W.cell? ⟨p, 1, none⟩ = some x1 := blk_cell H 1
  have c2 : W.cell? ⟨p, 2, none⟩ = some x2 := blk_cell H 2
  have c3 : W.cell? ⟨p, 3, none⟩ = some x3 := blk_cell H 3
  have c4 : W.cell? ⟨p, 4, none⟩ = some x4 := blk_cell H 4
  have c5 : W.cell? ⟨p, 5, none⟩ = some x5 := blk_cell H 5
  have c6 : W.cell? ⟨p, 6, none⟩ = some x6 := blk_cell H 6
  have c7 : W.cell? ⟨p, 7, none⟩ = some x7 := blk_cell H 7
  have c8 : W.cell? ⟨p, 8, none⟩ = some x8 := blk_cell H 8
  have c9 : W.cell? ⟨p, 9, none⟩ = some x9 := blk_cell H 9
  have c10 : W.cell? ⟨p, 10, none⟩ = some x10 := blk_cell H 10
  have c11 : W.cell? ⟨p, 11, none⟩ = some x11 := blk_cell H 11
  have c12 : W.cell? ⟨p, 12, none⟩ = some x12 := blk_cell H 12
  clear H
  replace t8 : tmps[8]?.getD undef = .pointer (some ⟨p, 0, none⟩) := by simpa using t8
  simp only [results, Tryd.results9]
  simp [Sem.run_bind, Result.andThen, t8, go_sem, c0, c1, c2, c3, c4, c5, c6, c7, c8, c9, c10, c11, c12]
set_option maxHeartbeats 4000000 in
set_option maxRecDepth 100000 in
theorem make_any (a b : List UInt8) (A : Option Addr) (len cap : Nat) (zs : List Int) (t : UInt8) (w : World) (hN : NumsAt w A len zs) (ha : a.length ≤ 140737488351232) (hb : b.length ≤ 140737488351232) :
    Calls Tryd.prog 9 #[.string (mkS a), .string (mkS b), .slice A len cap, .int .u8 (t.toNat : Int)] w fun e w' => e = .returned (.agg (hdCells (makeT a b (numK len zs) t))) ∧ Below w.heap.size w w' := by
  have HN := Aside0.mk hN
  have hlen := hN.bound
  have hmk := make_seven
  go_enter Tryd.func9, Tryd.ntmps9
  go_wp2_with fail
  have HK0 := heap_alloc_new (w.alloc (.cells #[.string ⟨#[]⟩, .int .i64 0, .int .i64 0, .int .i64 0, .int .i64 0, .int .i64 0, .int .u8 0, .string ⟨#[]⟩, .string ⟨#[]⟩, .string ⟨#[]⟩, .int .i64 0, .int .i64 0, .string ⟨#[]⟩] 26)) (.cells (kCells (kTo 0 [] 0)) 3)
  have HH0 := blk_alloc (heap_alloc_new w (.cells #[.string ⟨#[]⟩, .int .i64 0, .int .i64 0, .int .i64 0, .int .i64 0, .int .i64 0, .int .u8 0, .string ⟨#[]⟩, .string ⟨#[]⟩, .string ⟨#[]⟩, .int .i64 0, .int .i64 0, .string ⟨#[]⟩] 26)) (.cells (kCells (kTo 0 [] 0)) 3)
  have HB0 := below_alloc (below_alloc (Below.refl w.heap.size w) (.cells #[.string ⟨#[]⟩, .int .i64 0, .int .i64 0, .int .i64 0, .int .i64 0, .int .i64 0, .int .u8 0, .string ⟨#[]⟩, .string ⟨#[]⟩, .string ⟨#[]⟩, .int .i64 0, .int .i64 0, .string ⟨#[]⟩] 26)) (.cells (kCells (kTo 0 [] 0)) 3)
  rw [show (w.alloc (.cells #[.string ⟨#[]⟩, .int .i64 0, .int .i64 0, .int .i64 0, .int .i64 0, .int .i64 0, .int .u8 0, .string ⟨#[]⟩, .string ⟨#[]⟩, .string ⟨#[]⟩, .int .i64 0, .int .i64 0, .string ⟨#[]⟩] 26)).heap.size = w.heap.size + 1 by simp] at HK0
  rw [← kTo_zero len zs] at HK0 HH0 HB0 ⊢
  generalize (w.alloc (.cells #[.string ⟨#[]⟩, .int .i64 0, .int .i64 0, .int .i64 0, .int .i64 0, .int .i64 0, .int .u8 0, .string ⟨#[]⟩, .string ⟨#[]⟩, .string ⟨#[]⟩, .int .i64 0, .int .i64 0, .string ⟨#[]⟩] 26)).alloc (.cells (kCells (kTo len zs 0)) 3) = W0 at HK0 HH0 HB0 ⊢
  have K0 := Aside0.mk HK0
  have H0 := Aside0.mk HH0
  have B0 := Aside0.mk HB0
  have HNU := Aside0.mk (numK_nums hN)
  clear HK0 HH0 HB0 hmk hN
  go_loopw [10] (fun v wr => ∃ j : Nat, j ≤ 7 ∧ v = .int .i64 (j : Int) ∧ Aside0 (wr.heap[w.heap.size + 1]? = some (.cells (kCells (kTo len zs j)) 3)) ∧ Aside0 (wr.heap[w.heap.size]? = some (.cells #[.string ⟨#[]⟩, .int .i64 0, .int .i64 0, .int .i64 0, .int .i64 0, .int .i64 0, .int .u8 0, .string ⟨#[]⟩, .string ⟨#[]⟩, .string ⟨#[]⟩, .int .i64 0, .int .i64 0, .string ⟨#[]⟩] 26)) ∧ Aside0 (Below w.heap.size w wr)) (fun v _ => 7 - (intOf v).toNat)
  case atStart => exact ⟨0, by omega, rfl, K0, H0, B0⟩
  case round =>
    obtain ⟨j, hj7, rfl, HK, HH, HB⟩ := hrel
    by_cases hlt : j < 7 ∧ j < len
    · obtain ⟨h7, hln⟩ := hlt
      have q1 : (j : Int) < 7 := by omega
      have q2 : (j : Int) < (len : Int) := by omega
      obtain ⟨x, rfl, hxb, hxc, hx0, hx1⟩ := HN.out.cell j hln
      have kj : wr.cell? ⟨w.heap.size + 1, j, none⟩ = some (.int .i64 (kTo len zs j j)) := (blk_cell HK.out j).trans (kCells_at _ j h7)
      have fj := blk_frozen HK.out j
      have lj := blk_lt HK.out
      have xc : wr.cell? (x.add j) = some (.int .u32 (zs.getD j 0)) := (HB.out.cell (p := x.add j) (by rw [add_block]; exact hxb)).trans hxc
      have HKN : Aside0 ((wr.setCell ⟨w.heap.size + 1, j, none⟩ (.int .i64 (zs.getD j 0))).heap[w.heap.size + 1]? = some (.cells (kCells (kTo len zs (j + 1))) 3)) := ⟨by rw [← kTo_step len zs j h7 hln]; exact blk_hit HK.out⟩
      have HHN : Aside0 ((wr.setCell ⟨w.heap.size + 1, j, none⟩ (.int .i64 (zs.getD j 0))).heap[w.heap.size]? = _) := ⟨blk_miss HH.out (Nat.succ_ne_self _).symm⟩
      have HBN : Aside0 (Below w.heap.size w (wr.setCell ⟨w.heap.size + 1, j, none⟩ (.int .i64 (zs.getD j 0)))) := ⟨HB.out.setCell (Nat.le_succ _) _⟩
      generalize zs.getD j 0 = z at *
      have hz : IntKind.i64.wrap z = z := by rw [IntKind.wrap_i64]; omega
      clear hxc
      go_wp2_with fail
      exact ⟨⟨j + 1, by omega, by go_num, HKN, HHN, HBN⟩, by simp [intOf]; omega⟩
    · have HKA : Aside0 (wr.heap[w.heap.size + 1]? = some (.cells (kCells (numK len zs)) 3)) := ⟨by rw [← kTo_all len zs j (by omega)]; exact HK.out⟩
      have HNU' := HNU.out
      clear HK HN K0 H0 B0 HNU
      obtain ⟨k, hk⟩ : ∃ k, numK len zs = k := ⟨_, rfl⟩
      rw [hk] at HKA HNU'
      have HKK := Aside0.mk hk
      clear hk
      have HQ : ((¬ (j : Int) < 7) ∨ ((j : Int) < 7 ∧ ¬ (j : Int) < (len : Int))) := by omega
      have r0 := HNU'.range 0
      have r3 := HNU'.range 3
      have r4 := HNU'.range 4
      have r5 := HNU'.range 5
      have v0 : Int.tmod (k 0) 4096 = k 0 % 4096 := Int.tmod_eq_emod_of_nonneg r0.1
      have v5 : Int.tmod (k 5) 2097152 = k 5 % 2097152 := Int.tmod_eq_emod_of_nonneg r5.1
      have v3 : IntKind.i64.wrap (k 3 * 999) = k 3 * 999 := by rw [IntKind.wrap_i64]; omega
      have v4 : IntKind.i64.wrap (k 4 - 2147483648) = k 4 - 2147483648 := by rw [IntKind.wrap_i64]; omega
      have v6 : IntKind.i64.wrap (k 0 % 4096) = k 0 % 4096 := by rw [IntKind.wrap_i64]; omega
      have v7 : IntKind.i64.wrap (k 5 % 2097152) = k 5 % 2097152 := by rw [IntKind.wrap_i64]; omega
      have HR0 := Aside0.mk (Below.refl wr.heap.size wr)
      have KP := Aside0.mk (fun (W : World) (hb : Below wr.heap.size wr W) => show W.cell? ⟨w.heap.size + 1, 0, none⟩ = some (.int .i64 (k 0)) ∧ W.cell? ⟨w.heap.size + 1, 1, none⟩ = some (.int .i64 (k 1)) ∧ W.cell? ⟨w.heap.size + 1, 2, none⟩ = some (.int .i64 (k 2)) ∧ W.cell? ⟨w.heap.size + 1, 3, none⟩ = some (.int .i64 (k 3)) ∧ W.cell? ⟨w.heap.size + 1, 4, none⟩ = some (.int .i64 (k 4)) ∧ W.cell? ⟨w.heap.size + 1, 5, none⟩ = some (.int .i64 (k 5)) ∧ W.cell? ⟨w.heap.size + 1, 6, none⟩ = some (.int .i64 (k 6)) ∧ Aside0 (Below w.heap.size w W) from by
        have g := (hb.block _ (blk_lt HKA.out)).trans HKA.out
        exact ⟨blk_cell g 0, blk_cell g 1, blk_cell g 2, blk_cell g 3, blk_cell g 4, blk_cell g 5, blk_cell g 6, ⟨HB.out.trans (hb.mono HB.out.size)⟩⟩)
      have HP := Aside0.mk (fun (W : World) (hb : Below wr.heap.size wr W) => show W.cell? ⟨w.heap.size, 0, none⟩ = some (.string ⟨#[]⟩) ∧ W.cell? ⟨w.heap.size, 1, none⟩ = some (.int .i64 0) ∧ W.cell? ⟨w.heap.size, 2, none⟩ = some (.int .i64 0) ∧ W.cell? ⟨w.heap.size, 3, none⟩ = some (.int .i64 0) ∧ W.cell? ⟨w.heap.size, 4, none⟩ = some (.int .i64 0) ∧ W.cell? ⟨w.heap.size, 5, none⟩ = some (.int .i64 0) ∧ W.cell? ⟨w.heap.size, 6, none⟩ = some (.int .u8 0) ∧ W.cell? ⟨w.heap.size, 7, none⟩ = some (.string ⟨#[]⟩) ∧ W.cell? ⟨w.heap.size, 8, none⟩ = some (.string ⟨#[]⟩) ∧ W.cell? ⟨w.heap.size, 9, none⟩ = some (.string ⟨#[]⟩) ∧ W.cell? ⟨w.heap.size, 10, none⟩ = some (.int .i64 0) ∧ W.cell? ⟨w.heap.size, 11, none⟩ = some (.int .i64 0) ∧ W.cell? ⟨w.heap.size, 12, none⟩ = some (.string ⟨#[]⟩) ∧ W.frozen? ⟨w.heap.size, 0, none⟩ = false ∧ W.frozen? ⟨w.heap.size, 1, none⟩ = false ∧ W.frozen? ⟨w.heap.size, 2, none⟩ = false ∧ W.frozen? ⟨w.heap.size, 3, none⟩ = false ∧ W.frozen? ⟨w.heap.size, 4, none⟩ = false ∧ W.frozen? ⟨w.heap.size, 5, none⟩ = false ∧ W.frozen? ⟨w.heap.size, 6, none⟩ = false ∧ W.frozen? ⟨w.heap.size, 7, none⟩ = false ∧ W.frozen? ⟨w.heap.size, 8, none⟩ = false ∧ W.frozen? ⟨w.heap.size, 9, none⟩ = false ∧ W.frozen? ⟨w.heap.size, 10, none⟩ = false ∧ W.frozen? ⟨w.heap.size, 11, none⟩ = false ∧ W.frozen? ⟨w.heap.size, 12, none⟩ = false ∧ w.heap.size < W.heap.size from by
        have g := (hb.block _ (blk_lt HH.out)).trans HH.out
        exact ⟨blk_cell g 0, blk_cell g 1, blk_cell g 2, blk_cell g 3, blk_cell g 4, blk_cell g 5, blk_cell g 6, blk_cell g 7, blk_cell g 8, blk_cell g 9, blk_cell g 10, blk_cell g 11, blk_cell g 12, blk_frozen g 0, blk_frozen g 1, blk_frozen g 2, blk_frozen g 3, blk_frozen g 4, blk_frozen g 5, blk_frozen g 6, blk_frozen g 7, blk_frozen g 8, blk_frozen g 9, blk_frozen g 10, blk_frozen g 11, blk_frozen g 12, blk_lt g⟩)
      have KS := Aside0.mk (fun (W : World) (hb : Below wr.heap.size wr W) => show (fun W => W.cell? ⟨w.heap.size + 1, 0, none⟩ = some (.int .i64 (k 0)) ∧ W.cell? ⟨w.heap.size + 1, 1, none⟩ = some (.int .i64 (k 1)) ∧ W.cell? ⟨w.heap.size + 1, 2, none⟩ = some (.int .i64 (k 2)) ∧ W.cell? ⟨w.heap.size + 1, 3, none⟩ = some (.int .i64 (k 3)) ∧ W.cell? ⟨w.heap.size + 1, 4, none⟩ = some (.int .i64 (k 4)) ∧ W.cell? ⟨w.heap.size + 1, 5, none⟩ = some (.int .i64 (k 5)) ∧ W.cell? ⟨w.heap.size + 1, 6, none⟩ = some (.int .i64 (k 6)) ∧ Aside0 (Below w.heap.size w W)) (((((((((((((W.setCell ⟨w.heap.size, 0, none⟩ (.string (mkS (textM a 100)))).setCell ⟨w.heap.size, 1, none⟩ (.int .i64 (k 0 % 4096))).setCell ⟨w.heap.size, 2, none⟩ (.int .i64 (k 1))).setCell ⟨w.heap.size, 3, none⟩ (.int .i64 (k 2))).setCell ⟨w.heap.size, 4, none⟩ (.int .i64 (k 3 * 999))).setCell ⟨w.heap.size, 5, none⟩ (.int .i64 (k 4 - 2147483648))).setCell ⟨w.heap.size, 6, none⟩ (.int .u8 (t.toNat : Int))).setCell ⟨w.heap.size, 7, none⟩ (.string (mkS (textM b 100)))).setCell ⟨w.heap.size, 8, none⟩ (.string (mkS (textM a 32)))).setCell ⟨w.heap.size, 9, none⟩ (.string ⟨#[]⟩)).setCell ⟨w.heap.size, 10, none⟩ (.int .i64 (k 5 % 2097152))).setCell ⟨w.heap.size, 11, none⟩ (.int .i64 (k 6))).setCell ⟨w.heap.size, 12, none⟩ (.string (mkS (textM b 155)))) from by
        have g : (((((((((((((W.setCell ⟨w.heap.size, 0, none⟩ (.string (mkS (textM a 100)))).setCell ⟨w.heap.size, 1, none⟩ (.int .i64 (k 0 % 4096))).setCell ⟨w.heap.size, 2, none⟩ (.int .i64 (k 1))).setCell ⟨w.heap.size, 3, none⟩ (.int .i64 (k 2))).setCell ⟨w.heap.size, 4, none⟩ (.int .i64 (k 3 * 999))).setCell ⟨w.heap.size, 5, none⟩ (.int .i64 (k 4 - 2147483648))).setCell ⟨w.heap.size, 6, none⟩ (.int .u8 (t.toNat : Int))).setCell ⟨w.heap.size, 7, none⟩ (.string (mkS (textM b 100)))).setCell ⟨w.heap.size, 8, none⟩ (.string (mkS (textM a 32)))).setCell ⟨w.heap.size, 9, none⟩ (.string ⟨#[]⟩)).setCell ⟨w.heap.size, 10, none⟩ (.int .i64 (k 5 % 2097152))).setCell ⟨w.heap.size, 11, none⟩ (.int .i64 (k 6))).setCell ⟨w.heap.size, 12, none⟩ (.string (mkS (textM b 155)))).heap[w.heap.size + 1]? = _ := (blk_miss (blk_miss (blk_miss (blk_miss (blk_miss (blk_miss (blk_miss (blk_miss (blk_miss (blk_miss (blk_miss (blk_miss (blk_miss (Eq.trans (hb.block _ (blk_lt HKA.out)) HKA.out) (Nat.succ_ne_self _)) (Nat.succ_ne_self _)) (Nat.succ_ne_self _)) (Nat.succ_ne_self _)) (Nat.succ_ne_self _)) (Nat.succ_ne_self _)) (Nat.succ_ne_self _)) (Nat.succ_ne_self _)) (Nat.succ_ne_self _)) (Nat.succ_ne_self _)) (Nat.succ_ne_self _)) (Nat.succ_ne_self _)) (Nat.succ_ne_self _))
        exact ⟨blk_cell g 0, blk_cell g 1, blk_cell g 2, blk_cell g 3, blk_cell g 4, blk_cell g 5, blk_cell g 6, ⟨(Below.setCell (Below.setCell (Below.setCell (Below.setCell (Below.setCell (Below.setCell (Below.setCell (Below.setCell (Below.setCell (Below.setCell (Below.setCell (Below.setCell (Below.setCell (HB.out.trans (hb.mono HB.out.size)) (Nat.le_refl _) _) (Nat.le_refl _) _) (Nat.le_refl _) _) (Nat.le_refl _) _) (Nat.le_refl _) _) (Nat.le_refl _) _) (Nat.le_refl _) _) (Nat.le_refl _) _) (Nat.le_refl _) _) (Nat.le_refl _) _) (Nat.le_refl _) _) (Nat.le_refl _) _) (Nat.le_refl _) _)⟩⟩)
      have HTA := Aside0.mk (fun W => lawText_any a 100 W (by decide) ha)
      have HTB := Aside0.mk (fun W => lawText_any b 100 W (by decide) hb)
      have HTC := Aside0.mk (fun W => lawText_any b 155 W (by decide) hb)
      have HTD := Aside0.mk (fun W => lawText_any a 32 W (by decide) ha)
      clear HNU'
      rcases HQ with q1 | ⟨q1, q2⟩
      all_goals
        go_wp2_with fail
        go_region_held3 (fun W => W.cell? ⟨w.heap.size + 1, 0, none⟩ = some (.int .i64 (k 0)) ∧ W.cell? ⟨w.heap.size + 1, 1, none⟩ = some (.int .i64 (k 1)) ∧ W.cell? ⟨w.heap.size + 1, 2, none⟩ = some (.int .i64 (k 2)) ∧ W.cell? ⟨w.heap.size + 1, 3, none⟩ = some (.int .i64 (k 3)) ∧ W.cell? ⟨w.heap.size + 1, 4, none⟩ = some (.int .i64 (k 4)) ∧ W.cell? ⟨w.heap.size + 1, 5, none⟩ = some (.int .i64 (k 5)) ∧ W.cell? ⟨w.heap.size + 1, 6, none⟩ = some (.int .i64 (k 6)) ∧ Aside0 (Below w.heap.size w W))
          (first
            | with_reducible exact KP.out _ (below_drew HR0.out)
            | with_reducible exact KP.out _ hbq
            | exact KS.out _ hbq)
          (first
            | (go_at_call 17; have hh := t3; refine (HTD.out _).mono ?_; rintro e wp ⟨rfl, hbp⟩; replace hbq := below_next hbq hbp; obtain ⟨c0, c1, c2, c3, c4, c5, c6, c7, c8, c9, c10, c11, c12, f0, f1, f2, f3, f4, f5, f6, f7, f8, f9, f10, f11, f12, lh⟩ := HP.out _ hbq)
            | (go_at_call 17; have hh := t2; refine (HTC.out _).mono ?_; rintro e wp ⟨rfl, hbp⟩; replace hbq := below_next hbq hbp; have t3 := True.intro)
            | (go_at_call 17; have hh := t1; refine (HTB.out _).mono ?_; rintro e wp ⟨rfl, hbp⟩; replace hbq := below_next hbq hbp; have t2 := True.intro)
            | (go_at_call 17; refine (HTA.out _).mono ?_; rintro e wp ⟨rfl, hbp⟩; have hbq := below_next (below_drew HR0.out) hbp; have t1 := True.intro))
        go_wp2_with fail
        have a0 := (hbq.block _ (blk_lt HH.out)).trans HH.out
        have a1 := blk_hit (i := 0) (v := (.string (mkS (textM a 100)))) a0
        simp only [List.setIfInBounds_toArray, List.set_cons_zero, List.set_cons_succ] at a1
        have a2 := blk_hit (i := 1) (v := (.int .i64 (k 0 % 4096))) a1
        simp only [List.setIfInBounds_toArray, List.set_cons_zero, List.set_cons_succ] at a2
        have a3 := blk_hit (i := 2) (v := (.int .i64 (k 1))) a2
        simp only [List.setIfInBounds_toArray, List.set_cons_zero, List.set_cons_succ] at a3
        have a4 := blk_hit (i := 3) (v := (.int .i64 (k 2))) a3
        simp only [List.setIfInBounds_toArray, List.set_cons_zero, List.set_cons_succ] at a4
        have a5 := blk_hit (i := 4) (v := (.int .i64 (k 3 * 999))) a4
        simp only [List.setIfInBounds_toArray, List.set_cons_zero, List.set_cons_succ] at a5
        have a6 := blk_hit (i := 5) (v := (.int .i64 (k 4 - 2147483648))) a5
        simp only [List.setIfInBounds_toArray, List.set_cons_zero, List.set_cons_succ] at a6
        have a7 := blk_hit (i := 6) (v := (.int .u8 (t.toNat : Int))) a6
        simp only [List.setIfInBounds_toArray, List.set_cons_zero, List.set_cons_succ] at a7
        have a8 := blk_hit (i := 7) (v := (.string (mkS (textM b 100)))) a7
        simp only [List.setIfInBounds_toArray, List.set_cons_zero, List.set_cons_succ] at a8
        have a9 := blk_hit (i := 8) (v := (.string (mkS (textM a 32)))) a8
        simp only [List.setIfInBounds_toArray, List.set_cons_zero, List.set_cons_succ] at a9
        have a10 := blk_hit (i := 9) (v := (.string ⟨#[]⟩)) a9
        simp only [List.setIfInBounds_toArray, List.set_cons_zero, List.set_cons_succ] at a10
        have a11 := blk_hit (i := 10) (v := (.int .i64 (k 5 % 2097152))) a10
        simp only [List.setIfInBounds_toArray, List.set_cons_zero, List.set_cons_succ] at a11
        have a12 := blk_hit (i := 11) (v := (.int .i64 (k 6))) a11
        simp only [List.setIfInBounds_toArray, List.set_cons_zero, List.set_cons_succ] at a12
        have a13 := blk_hit (i := 12) (v := (.string (mkS (textM b 155)))) a12
        simp only [List.setIfInBounds_toArray, List.set_cons_zero, List.set_cons_succ] at a13
        refine bodyPost_ret (make_res w.heap.size _ _ _ _ _ _ _ _ _ _ _ _ _ _ _ rfl a13) rfl ?_
        exact ⟨by rw [HKK.out]; rfl, (Below.setCell (Below.setCell (Below.setCell (Below.setCell (Below.setCell (Below.setCell (Below.setCell (Below.setCell (Below.setCell (Below.setCell (Below.setCell (Below.setCell (Below.setCell (HB.out.trans (hbq.mono HB.out.size)) (Nat.le_refl _) _) (Nat.le_refl _) _) (Nat.le_refl _) _) (Nat.le_refl _) _) (Nat.le_refl _) _) (Nat.le_refl _) _) (Nat.le_refl _) _) (Nat.le_refl _) _) (Nat.le_refl _) _) (Nat.le_refl _) _) (Nat.le_refl _) _) (Nat.le_refl _) _) (Nat.le_refl _) _)⟩
end Go.Proofs.YtpmiddhdgidimaaDoor
