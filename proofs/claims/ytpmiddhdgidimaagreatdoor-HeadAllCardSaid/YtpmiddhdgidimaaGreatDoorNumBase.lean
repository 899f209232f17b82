/- num.base: a number by bytes. -/
import Derived.Test.YtpmiddhdgidimaaGreatDoorNumRev
import Derived.Laws.CopyOwn
set_option linter.unusedVariables false
set_option linter.unusedSimpArgs false
namespace Go.Proofs.YtpmiddhdgidimaaGreatDoor
open Go.RowKit Go.Proofs.YtpmiddhdgidimaaGreatDoorW.PrintWords

/-- A block of bytes, by its cells. -/
def byteCells (l : List UInt8) : Array Value := (l.map fun c => Value.int .u8 c.toNat).toArray
theorem byteCells_size (l : List UInt8) : (byteCells l).size = l.length := by simp [byteCells]
theorem bytes_of_block {W : World} {g : Nat} {l : List UInt8} (h : W.heap[g]? = some (.cells (byteCells l) 5 (0, 0))) : Bytes W g l := by
  refine ⟨fun j hj => ?_, fun j hj => blk_frozen h j, blk_lt h⟩
  rw [blk_cell h j]
  simp [byteCells, List.getD_eq_getElem?_getD, List.getElem?_eq_getElem hj]
/-- 'make([]byte, 0, n)'. -/
theorem made_room (n : Nat) (hn : n ≤ 1000000) (w : World) : (Instr.makeSlice 40 (.int .i64 0) (.int .i64 (n : Int))).run Tryz.prog w = .ok (.slice (some ⟨w.heap.size, 0, none⟩) 0 n) (w.alloc (.cells (byteCells (List.replicate n 0)) 5)) := by
  obtain ⟨i, hi, hinfo⟩ : ∃ i, Tryz.prog.info? 5 = some i ∧ (i.zero, i.size, i.bytes) = (some (.int .u8 0), 1, 1) := by
    have := info_byte
    cases h : Tryz.prog.info? 5 with
    | none => rw [h] at this; cases this
    | some i => rw [h] at this; exact ⟨i, rfl, Option.some.inj this⟩
  have h1 : i.zero = some (.int .u8 0) := congrArg Prod.fst hinfo
  have h2 : i.size = 1 := congrArg (fun x => x.2.1) hinfo
  have h3 : i.bytes = 1 := congrArg (fun x => x.2.2) hinfo
  rw [run_make (P := Tryz.prog) w 40 5 i (.int .u8 0) Tryz.underlying40 hi h1 .i64 .i64 0 (n : Int) (by omega) (by omega) (by rw [h3]; omega) (by omega)]
  rw [h2, Nat.mul_one, Int.toNat_natCast]
  have e : madeCells (Value.int .u8 0).cells n = byteCells (List.replicate n 0) := by
    apply Array.toList_inj.1
    rw [show (Value.int .u8 0).cells = #[.int .u8 0] from rfl, toList_madeCells_one]
    simp [byteCells]
  rw [e]
  rfl
/-- One byte put behind the others, where there is room. -/
theorem append_byte (W : World) (g : Nat) (l : List UInt8) (k : Nat) (c : UInt8) (a : Nat) (h : W.heap[g]? = some (.cells (byteCells (l ++ List.replicate (k + 1) 0)) 5 (0, 0))) (ha : W.cell? ⟨a, 0, none⟩ = some (.int .u8 c.toNat)) :
    (Builtin.append_ #[40, 40] 40 #[.slice (some ⟨g, 0, none⟩) l.length (l.length + (k + 1)), .slice (some ⟨a, 0, none⟩) 1 1]).run Tryz.prog W =
      .ok (.slice (some ⟨g, 0, none⟩) (l.length + 1) (l.length + (k + 1))) (W.setRow g (byteCells ((l ++ [c]) ++ List.replicate k 0))) := by
  obtain ⟨i, hi, h2⟩ : ∃ i, Tryz.prog.info? 5 = some i ∧ i.size = 1 := by
    have := info_byte
    cases h : Tryz.prog.info? 5 with
    | none => rw [h] at this; cases this
    | some i => rw [h] at this; exact ⟨i, rfl, congrArg (fun x => x.2.1) (Option.some.inj this)⟩
  have := run_append_room (P := Tryz.prog) W 40 40 5 i Tryz.underlying40 hi g l.length (l.length + (k + 1)) _ h ⟨a, 0, none⟩ 1 1 [.int .u8 c.toNat] (by rw [h2]; rfl) (by
      intro j u hj
      cases j with
      | zero => simp at hj; subst hj; exact ha
      | succ j => simp at hj) (by simp [Value.oneCell']) (by omega) (by rw [h2, byteCells_size]; simp)
  rw [h2, Nat.mul_one] at this
  have e : ((byteCells (l ++ List.replicate (k + 1) 0)).toList.take l.length ++ [Value.int .u8 c.toNat] ++ (byteCells (l ++ List.replicate (k + 1) 0)).toList.drop (l.length + [Value.int .u8 (c.toNat : Int)].length)).toArray = byteCells ((l ++ [c]) ++ List.replicate k 0) := by
    apply Array.toList_inj.1
    simp only [byteCells, List.map_append, List.length_singleton, List.map_replicate, List.map_cons, List.map_nil]
    rw [List.take_left' (by simp), List.drop_append]
    simp [List.replicate_succ]
  rw [e] at this
  exact this
theorem wp_append_run {P : Program} {o : Oper} {a : Act} {w : World} {K : Act → World → Prop} {Q : Exit → Act → World → Prop} (s x : Operand) (t : TypeId) (ho : o.op = .call { callee := .builtin .append, args := #[s, x], argTypes := #[t, t] })
    (v vx : Value) (hs : a.eval s = v) (hx : a.eval x = vx) (v' : Value) (w' : World) (hr : (Builtin.append_ #[t, t] o.type #[v, vx]).run P w = .ok v' w') (h : K (a.put o.dst v') w') : o.wp P a w K Q := by
  unfold Oper.wp execOp
  simp only [ho, resolve, invoke, builtin, Sem.run_bind, Sem.run_pure, Result.andThen_ok, List.map_toArray, List.map_cons, List.map_nil, hs, hx, hr]
  exact h
theorem wpList_append_run {P : Program} {ops : Array Oper} {rest : List Oper} {o : Oper} {a : Act} {w : World} {Q : Exit → Act → World → Prop} (hgd : o.guard = none) (s x : Operand) (t : TypeId) (ho : o.op = .call { callee := .builtin .append, args := #[s, x], argTypes := #[t, t] })
    (v vx : Value) (hs : a.eval s = v) (hx : a.eval x = vx) (v' : Value) (w' : World) (hr : (Builtin.append_ #[t, t] o.type #[v, vx]).run P w = .ok v' w') (h : wpList P ops Q rest (a.put o.dst v') w') : wpList P ops Q (o :: rest) a w :=
  wpList_plain hgd fun _ hK => wp_append_run s x t ho v vx hs hx v' w' hr (hK _ _ h)
theorem baseOk_iff (w : Nat) (n : Int) : baseOk w n = true ↔ (w = 12 ∨ (-72057594037927936 ≤ n ∧ n < 72057594037927936)) := by simp [baseOk]
set_option maxHeartbeats 2000000 in
set_option maxRecDepth 100000 in
theorem base_ok (n : Int) (wd : Nat) (hw : wd = 8 ∨ wd = 12) (h1 : -9223372036854775808 ≤ n) (h2 : n ≤ 9223372036854775807) (hok : baseOk wd n = true) (w : World) :
    Calls Tryz.prog 68 #[.int .i64 n, .int .i64 (wd : Int)] w fun e w' => e = .returned (.string (mkS (baseL wd n))) ∧ Below w.heap.size w w' := by
  have hmk := made_room wd (by omega)
  have hwd : ((wd : Int) == 8 || (wd : Int) == 12) = true := by rcases hw with rfl | rfl <;> rfl
  have hwd2 : 8 ≤ wd ∧ wd ≤ 12 := by omega
  have hg0 := heap_alloc_new w (.cells (byteCells (List.replicate wd 0)) 5)
  have HB0 := Aside0.mk (below_alloc (Below.refl w.heap.size w) (.cells (byteCells (List.replicate wd 0)) 5))
  have hcond : ((wd : Int) == 12) = true ∨ (((wd : Int) == 12) = false ∧ -72057594037927936 ≤ n ∧ n < 72057594037927936) := by
    rcases hw with rfl | rfl
    · right
      have := (baseOk_iff 8 n).1 hok
      exact ⟨rfl, by omega⟩
    · exact .inl rfl
  go_enter Tryz.func68, Tryz.ntmps68
  rcases hcond with hc | ⟨hc, hc1, hc2⟩
  · go_wp2_with (first
      | (go_at_call 84; refine (wide_any _ _).mono ?_; rintro e w1 ⟨rfl, hw1⟩; rw [hw1, hwd]; clear hw1)
      | (go_at_call 82; refine (must_true _).mono ?_; rintro e w1 ⟨rfl, hw1⟩; rw [hw1]; clear hw1))
    obtain ⟨g, hg⟩ : ∃ g, w.heap.size = g := ⟨_, rfl⟩
    rw [hg] at hg0 ⊢
    have HG0 := Aside0.mk hg0
    clear hg0
    go_loopw [0, 5, 25] (fun nv bv cv wr => ∃ (j : Nat) (m : Int), j ≤ wd - 1 ∧ cv = .int .i64 j ∧ nv = .int .i64 m ∧ bv = .slice (some ⟨g, 0, none⟩) j wd ∧ Aside0 (m = n / 256 ^ j) ∧ -9223372036854775808 ≤ m ∧ m ≤ 9223372036854775807 ∧ Aside0 (m < 0 ↔ n < 0) ∧ Aside0 (wr.heap[g]? = some (.cells (byteCells (leD j n ++ List.replicate (wd - j) 0)) 5 (0, 0))) ∧ Aside0 (Below w.heap.size w wr)) (fun _ _ cv _ => wd - (intOf cv).toNat)
    case atStart => exact ⟨0, n, Nat.zero_le _, rfl, rfl, rfl, ⟨by simp⟩, h1, h2, ⟨Iff.rfl⟩, ⟨by rw [Nat.sub_zero]; exact HG0.out⟩, HB0⟩
    case round =>
      obtain ⟨j, m, hj, rfl, rfl, rfl, HM, hm1, hm2, HS, HC, HB⟩ := hrel
      have hlw := blk_lt HC.out
      by_cases hlt : j < wd - 1
      · have hlt2 : (j : Int) < (wd : Int) - 1 := by omega
        obtain ⟨k, hk⟩ : ∃ k, wd - j = k + 1 := ⟨wd - j - 1, by omega⟩
        have hgc := blk_alloc HC.out (.cells #[.int .u8 (m % 256)] 5)
        rw [hk] at hgc
        have hc8 : ((UInt8.ofNat (m % 256).toNat).toNat : Int) = m % 256 := by simp [UInt8.toNat_ofNat']; omega
        have hap := append_byte _ g (leD j n) k (UInt8.ofNat (m % 256).toNat) wr.heap.size hgc (by rw [hc8]; exact blk_cell (heap_alloc_new wr (.cells #[.int .u8 (m % 256)] 5)) 0)
        rw [leD_length, show j + (k + 1) = wd by omega] at hap
        obtain ⟨nl, hnl⟩ : ∃ nl, leD j n ++ [UInt8.ofNat (m % 256).toNat] ++ List.replicate k 0 = nl := ⟨_, rfl⟩
        rw [hnl] at hap
        have HNL := Aside0.mk hnl
        have HK := Aside0.mk hk
        have HGC := Aside0.mk hgc
        clear hnl
        clear hk hgc hc8
        go_wp2_with ((with_reducible refine gate_dst (N := 31) rfl ?_); refine wpList_append_run rfl (.tmp 27) (.tmp 30) 40 rfl _ _ rfl rfl _ _ hap ?_)
        go_roundw
        case measure => simp [intOf]; omega
        case rel =>
          have hk := HK.out
          refine ⟨j + 1, m / 256, by omega, by go_num, rfl, rfl, ⟨?_⟩, by omega, by omega, ⟨?_⟩, ⟨?_⟩, ⟨below_setRow (below_alloc HB.out _) (by omega) _⟩⟩
          · rw [HM.out, Int.ediv_ediv_of_nonneg (Int.pow_nonneg (by decide)), Int.pow_succ]
          · rw [← HS.out]; omega
          · rw [leD_snoc, ← HM.out, show wd - (j + 1) = k by omega, HNL.out]
            exact setRow_heap _ _ _ _ _ _ HGC.out
      · obtain rfl : j = wd - 1 := by omega
        have hgc := blk_alloc HC.out (.cells #[.int .u8 (signB n).toNat] 5)
        rw [show wd - (wd - 1) = 0 + 1 by omega] at hgc
        have hap := append_byte _ g (leD (wd - 1) n) 0 (signB n) wr.heap.size hgc (blk_cell (heap_alloc_new wr (.cells #[.int .u8 (signB n).toNat] 5)) 0)
        rw [leD_length, show wd - 1 + (0 + 1) = wd by omega] at hap
        have hY := bytes_of_block (setRow_heap _ _ _ (byteCells (leD (wd - 1) n ++ [signB n] ++ List.replicate 0 0)) _ _ hgc)
        rw [List.replicate_zero, List.append_nil] at hY hap
        have hlen : (leD (wd - 1) n ++ [signB n]).length = wd := by rw [List.length_append, leD_length]; simp; omega
        have hrev : (leD (wd - 1) n ++ [signB n]).reverse = baseL wd n := by unfold baseL; simp
        obtain ⟨fl, hfl⟩ : ∃ fl, leD (wd - 1) n ++ [signB n] = fl := ⟨_, rfl⟩
        rw [hfl] at hap hY hlen hrev
        have HY := Aside0.mk hY
        have HL := Aside0.mk hlen
        have HREV := Aside0.mk hrev
        clear hfl
        have HB1 := Aside0.mk (below_setRow (below_alloc HB.out (.cells #[.int .u8 (signB n).toNat] 5)) (g := g) (by omega) (byteCells fl))
        clear hgc hY hlen hrev
        by_cases hneg : n < 0
        · have hmn := HS.out.2 hneg
          have hs : ((signB n).toNat : Int) = 255 := by unfold signB; rw [if_pos hneg]; rfl
          rw [hs] at hap HY HB1
          clear hs
          go_wp2_with (first | ((with_reducible refine gate_dst (N := 39) rfl ?_); refine wpList_append_run rfl (.tmp 37) (.tmp 38) 40 rfl _ _ rfl rfl _ _ hap ?_) | (go_at_call 89; have h5 := reverse_any g _ wd _ HY.out (by rw [HL.out]; omega) w.heap.size (by omega); rw [HL.out] at h5; refine h5.mono ?_; rintro e w5 ⟨rfl, hY5, hb5⟩; rw [HREV.out] at hY5; have hcv := hY5.back (P := Tryz.prog) 40 9 5 wd wd (by rw [baseL_length _ _ (by omega)]) Tryz.underlying40 Tryz.underlying5 Tryz.underlying9))
          go_ret
          exact ⟨rfl, HB1.out.trans hb5⟩
        · have hmn : ¬ m < 0 := fun h => hneg (HS.out.1 h)
          have hs : ((signB n).toNat : Int) = 128 := by unfold signB; rw [if_neg hneg]; rfl
          rw [hs] at hap HY HB1
          clear hs
          go_wp2_with (first | ((with_reducible refine gate_dst (N := 42) rfl ?_); refine wpList_append_run rfl (.tmp 40) (.tmp 41) 40 rfl _ _ rfl rfl _ _ hap ?_) | (go_at_call 89; have h5 := reverse_any g _ wd _ HY.out (by rw [HL.out]; omega) w.heap.size (by omega); rw [HL.out] at h5; refine h5.mono ?_; rintro e w5 ⟨rfl, hY5, hb5⟩; rw [HREV.out] at hY5; have hcv := hY5.back (P := Tryz.prog) 40 9 5 wd wd (by rw [baseL_length _ _ (by omega)]) Tryz.underlying40 Tryz.underlying5 Tryz.underlying9))
          go_ret
          exact ⟨rfl, HB1.out.trans hb5⟩
  · go_wp2_with (first
      | (go_at_call 84; refine (wide_any _ _).mono ?_; rintro e w1 ⟨rfl, hw1⟩; rw [hw1, hwd]; clear hw1)
      | (go_at_call 82; refine (must_true _).mono ?_; rintro e w1 ⟨rfl, hw1⟩; rw [hw1]; clear hw1))
    obtain ⟨g, hg⟩ : ∃ g, w.heap.size = g := ⟨_, rfl⟩
    rw [hg] at hg0 ⊢
    have HG0 := Aside0.mk hg0
    clear hg0
    go_loopw [0, 5, 25] (fun nv bv cv wr => ∃ (j : Nat) (m : Int), j ≤ wd - 1 ∧ cv = .int .i64 j ∧ nv = .int .i64 m ∧ bv = .slice (some ⟨g, 0, none⟩) j wd ∧ Aside0 (m = n / 256 ^ j) ∧ -9223372036854775808 ≤ m ∧ m ≤ 9223372036854775807 ∧ Aside0 (m < 0 ↔ n < 0) ∧ Aside0 (wr.heap[g]? = some (.cells (byteCells (leD j n ++ List.replicate (wd - j) 0)) 5 (0, 0))) ∧ Aside0 (Below w.heap.size w wr)) (fun _ _ cv _ => wd - (intOf cv).toNat)
    case atStart => exact ⟨0, n, Nat.zero_le _, rfl, rfl, rfl, ⟨by simp⟩, h1, h2, ⟨Iff.rfl⟩, ⟨by rw [Nat.sub_zero]; exact HG0.out⟩, HB0⟩
    case round =>
      obtain ⟨j, m, hj, rfl, rfl, rfl, HM, hm1, hm2, HS, HC, HB⟩ := hrel
      have hlw := blk_lt HC.out
      by_cases hlt : j < wd - 1
      · have hlt2 : (j : Int) < (wd : Int) - 1 := by omega
        obtain ⟨k, hk⟩ : ∃ k, wd - j = k + 1 := ⟨wd - j - 1, by omega⟩
        have hgc := blk_alloc HC.out (.cells #[.int .u8 (m % 256)] 5)
        rw [hk] at hgc
        have hc8 : ((UInt8.ofNat (m % 256).toNat).toNat : Int) = m % 256 := by simp [UInt8.toNat_ofNat']; omega
        have hap := append_byte _ g (leD j n) k (UInt8.ofNat (m % 256).toNat) wr.heap.size hgc (by rw [hc8]; exact blk_cell (heap_alloc_new wr (.cells #[.int .u8 (m % 256)] 5)) 0)
        rw [leD_length, show j + (k + 1) = wd by omega] at hap
        obtain ⟨nl, hnl⟩ : ∃ nl, leD j n ++ [UInt8.ofNat (m % 256).toNat] ++ List.replicate k 0 = nl := ⟨_, rfl⟩
        rw [hnl] at hap
        have HNL := Aside0.mk hnl
        have HK := Aside0.mk hk
        have HGC := Aside0.mk hgc
        clear hnl
        clear hk hgc hc8
        go_wp2_with ((with_reducible refine gate_dst (N := 31) rfl ?_); refine wpList_append_run rfl (.tmp 27) (.tmp 30) 40 rfl _ _ rfl rfl _ _ hap ?_)
        go_roundw
        case measure => simp [intOf]; omega
        case rel =>
          have hk := HK.out
          refine ⟨j + 1, m / 256, by omega, by go_num, rfl, rfl, ⟨?_⟩, by omega, by omega, ⟨?_⟩, ⟨?_⟩, ⟨below_setRow (below_alloc HB.out _) (by omega) _⟩⟩
          · rw [HM.out, Int.ediv_ediv_of_nonneg (Int.pow_nonneg (by decide)), Int.pow_succ]
          · rw [← HS.out]; omega
          · rw [leD_snoc, ← HM.out, show wd - (j + 1) = k by omega, HNL.out]
            exact setRow_heap _ _ _ _ _ _ HGC.out
      · obtain rfl : j = wd - 1 := by omega
        have hgc := blk_alloc HC.out (.cells #[.int .u8 (signB n).toNat] 5)
        rw [show wd - (wd - 1) = 0 + 1 by omega] at hgc
        have hap := append_byte _ g (leD (wd - 1) n) 0 (signB n) wr.heap.size hgc (blk_cell (heap_alloc_new wr (.cells #[.int .u8 (signB n).toNat] 5)) 0)
        rw [leD_length, show wd - 1 + (0 + 1) = wd by omega] at hap
        have hY := bytes_of_block (setRow_heap _ _ _ (byteCells (leD (wd - 1) n ++ [signB n] ++ List.replicate 0 0)) _ _ hgc)
        rw [List.replicate_zero, List.append_nil] at hY hap
        have hlen : (leD (wd - 1) n ++ [signB n]).length = wd := by rw [List.length_append, leD_length]; simp; omega
        have hrev : (leD (wd - 1) n ++ [signB n]).reverse = baseL wd n := by unfold baseL; simp
        obtain ⟨fl, hfl⟩ : ∃ fl, leD (wd - 1) n ++ [signB n] = fl := ⟨_, rfl⟩
        rw [hfl] at hap hY hlen hrev
        have HY := Aside0.mk hY
        have HL := Aside0.mk hlen
        have HREV := Aside0.mk hrev
        clear hfl
        have HB1 := Aside0.mk (below_setRow (below_alloc HB.out (.cells #[.int .u8 (signB n).toNat] 5)) (g := g) (by omega) (byteCells fl))
        clear hgc hY hlen hrev
        by_cases hneg : n < 0
        · have hmn := HS.out.2 hneg
          have hs : ((signB n).toNat : Int) = 255 := by unfold signB; rw [if_pos hneg]; rfl
          rw [hs] at hap HY HB1
          clear hs
          go_wp2_with (first | ((with_reducible refine gate_dst (N := 39) rfl ?_); refine wpList_append_run rfl (.tmp 37) (.tmp 38) 40 rfl _ _ rfl rfl _ _ hap ?_) | (go_at_call 89; have h5 := reverse_any g _ wd _ HY.out (by rw [HL.out]; omega) w.heap.size (by omega); rw [HL.out] at h5; refine h5.mono ?_; rintro e w5 ⟨rfl, hY5, hb5⟩; rw [HREV.out] at hY5; have hcv := hY5.back (P := Tryz.prog) 40 9 5 wd wd (by rw [baseL_length _ _ (by omega)]) Tryz.underlying40 Tryz.underlying5 Tryz.underlying9))
          go_ret
          exact ⟨rfl, HB1.out.trans hb5⟩
        · have hmn : ¬ m < 0 := fun h => hneg (HS.out.1 h)
          have hs : ((signB n).toNat : Int) = 128 := by unfold signB; rw [if_neg hneg]; rfl
          rw [hs] at hap HY HB1
          clear hs
          go_wp2_with (first | ((with_reducible refine gate_dst (N := 42) rfl ?_); refine wpList_append_run rfl (.tmp 40) (.tmp 41) 40 rfl _ _ rfl rfl _ _ hap ?_) | (go_at_call 89; have h5 := reverse_any g _ wd _ HY.out (by rw [HL.out]; omega) w.heap.size (by omega); rw [HL.out] at h5; refine h5.mono ?_; rintro e w5 ⟨rfl, hY5, hb5⟩; rw [HREV.out] at hY5; have hcv := hY5.back (P := Tryz.prog) 40 9 5 wd wd (by rw [baseL_length _ _ (by omega)]) Tryz.underlying40 Tryz.underlying5 Tryz.underlying9))
          go_ret
          exact ⟨rfl, HB1.out.trans hb5⟩
theorem base_bad (n : Int) (wd : Nat) (hw : wd = 8 ∨ wd = 12) (hok : baseOk wd n = false) (w : World) :
    Calls Tryz.prog 68 #[.int .i64 n, .int .i64 (wd : Int)] w fun e w' => e = .panicked noFieldC ∧ w' = w := by
  have h : ¬ (wd = 12 ∨ (-72057594037927936 ≤ n ∧ n < 72057594037927936)) := fun h => by rw [(baseOk_iff wd n).2 h] at hok; cases hok
  obtain rfl : wd = 8 := by omega
  have hwd : (((8 : Nat) : Int) == 8 || ((8 : Nat) : Int) == 12) = true := rfl
  by_cases h1 : n < -72057594037927936
  · have hd : decide (-72057594037927936 ≤ n) = false := by simp; omega
    go_enter Tryz.func68, Tryz.ntmps68
    go_wp2_with (first
      | (go_at_call 84; refine (wide_any _ _).mono ?_; rintro e w1 ⟨rfl, hw1⟩; rw [hw1]; clear hw1)
      | (go_at_call 82; refine (must_false _).mono ?_; rintro e w1 ⟨rfl, rfl⟩))
    exact ⟨rfl, rfl, rfl⟩
  · have hd : decide (n < 72057594037927936) = false := by simp; omega
    have hd2 : -72057594037927936 ≤ n := by omega
    go_enter Tryz.func68, Tryz.ntmps68
    go_wp2_with (first
      | (go_at_call 84; refine (wide_any _ _).mono ?_; rintro e w1 ⟨rfl, hw1⟩; rw [hw1]; clear hw1)
      | (go_at_call 82; refine (must_false _).mono ?_; rintro e w1 ⟨rfl, rfl⟩))
    exact ⟨rfl, rfl, rfl⟩
theorem base_is (n : Int) (wd : Nat) (hw : wd = 8 ∨ wd = 12) (h1 : -9223372036854775808 ≤ n) (h2 : n ≤ 9223372036854775807) (w : World) :
    Calls Tryz.prog 68 #[.int .i64 n, .int .i64 (wd : Int)] w fun e w' => (if baseOk wd n = true then e = .returned (.string (mkS (baseL wd n))) else e = .panicked noFieldC) ∧ Below w.heap.size w w' := by
  cases h : baseOk wd n with
  | true => exact (base_ok n wd hw h1 h2 h w).mono fun e w' ⟨he, hb⟩ => ⟨by rw [if_pos rfl]; exact he, hb⟩
  | false => exact (base_bad n wd hw h w).mono fun e w' ⟨he, hb⟩ => ⟨by rw [if_neg (by decide)]; exact he, by rw [hb]; exact Below.refl _ _⟩
end Go.Proofs.YtpmiddhdgidimaaGreatDoor
