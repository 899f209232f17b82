/- RecBack: records by texts are told again by their bytes; with a byte turned, other ones, or none. Conditions: those of the row. -/
import Derived.Test.YtldimdlobgnnpaaDoorStr
import Derived.Lib.Builder
import Derived.Lib.AppendStr
import Derived.Laws.Externs
import Derived.Shelf.Strings.BuilderX
import Derived.Test.YtldimdlobgnnpaaDoorRecAll
import Derived.SizedLaws
import Derived.SliceStrings
import Derived.Test.YtldimdlobgnnpaaDoorRecAllLaw
import Derived.Laws.BitsAllLaws
set_option linter.unusedVariables false
set_option linter.unusedSimpArgs false
namespace Go.Proofs.YtldimdlobgnnpaaDoor
open Go.RowKit Go.Proofs.YtldimdlobgnnpaaDoorW.PrintWords

theorem info_builder : ∃ j, Tryd.prog.info? 61 = some j ∧ j.size = 2 := by
  have h : (Tryd.prog.info? 61).map (·.size) = some 2 := by kernel_rfl
  obtain ⟨j, h1, h2⟩ := Option.map_eq_some_iff.1 h
  exact ⟨j, h1, h2⟩
theorem lies_builder : liesAt Tryd.prog Tryd.prog.depth 61 (2 / Tryd.prog.cellsOf 61) 0 61 1 = true := by kernel_rfl
set_option maxHeartbeats 1000000 in
set_option maxRecDepth 100000 in
theorem copyCheck_used (b : Nat) (w : World) (h0 : w.cell? ⟨b, 0, none⟩ = some (.pointer (some ⟨b, 0, none⟩))) :
    Calls Tryd.prog 37 #[.pointer (some ⟨b, 0, none⟩)] w fun e w' => e = .returned (.tuple #[]) ∧ w' = w := by
  obtain ⟨j, hj, _⟩ := info_builder
  go_enter Tryd.func37, Tryd.ntmps37
  go_wp2
  rw [Lib.run_neq_ptr_same w _ Tryd.underlying59 hj]
  go_wp2
  go_end0
  exact ⟨rfl, rfl⟩
set_option maxHeartbeats 1000000 in
set_option maxRecDepth 100000 in
theorem copyCheck_fresh (b : Nat) (w : World) (h0 : w.cell? ⟨b, 0, none⟩ = some (.pointer none)) (hsh : w.shape? b = some (61, 2)) (hfz : w.frozen? ⟨b, 0, none⟩ = false) :
    Calls Tryd.prog 37 #[.pointer (some ⟨b, 0, none⟩)] w fun e w' => e = .returned (.tuple #[]) ∧ w' = w.setCell ⟨b, 0, none⟩ (.pointer (some ⟨b, 0, none⟩)) := by
  obtain ⟨j, hj, hjs⟩ := info_builder
  go_enter Tryd.func37, Tryd.ntmps37
  go_wp2
  rw [Lib.run_to_unsafe w ⟨b, 0, none⟩ Tryd.underlying59 Tryd.underlying83 hj (by rw [hjs]; decide) hsh (Nat.zero_lt_succ 1)]
  simp only [Result.andThen]
  rw [Oper.upon_value]
  go_wp2
  rw [run_callFunc_extern Tryd.func53 (by kernel_rfl) (by kernel_rfl) (by kernel_rfl) (e := Extern.AbiNoEscape.same) (by kernel_rfl)]
  rw [Lib.run_noEscape]
  simp only [Result.andThen]
  rw [Oper.upon_value]
  go_wp2
  rw [Lib.run_from_unsafe w ⟨b, 0, none⟩ Tryd.underlying83 Tryd.underlying59 hj hsh lies_builder]
  simp only [Result.andThen]
  rw [Oper.upon_value]
  go_wp2
  go_end0
  exact ⟨rfl, rfl⟩
theorem copyCheck_any (B b : Nat) (bs : List Value) (w : World) (h : Lib.IsBuilder 61 5 B b bs w) :
    Calls Tryd.prog 37 #[.pointer (some ⟨b, 0, none⟩)] w fun e w' => e = .returned (.tuple #[]) ∧ (Lib.BuilderAt 61 5 B b (.pointer (some ⟨b, 0, none⟩)) bs w' ∧ Below B w w') := by
  rcases h with h | h
  · refine (copyCheck_fresh b w h.cell0 h.shape h.frozen0).mono ?_
    rintro e w' ⟨rfl, rfl⟩
    exact ⟨rfl, h.used _, (Below.refl B w).setCell (p := ⟨b, 0, none⟩) h.1 _⟩
  · refine (copyCheck_used b w h.cell0).mono ?_
    rintro e w' ⟨rfl, rfl⟩
    exact ⟨rfl, h, Below.refl B _⟩
theorem info_b : (Tryd.prog.info? 5).map (fun i => (i.zero, i.size, i.bytes)) = some (some (.int .u8 0), 1, 1) := by kernel_rfl
set_option maxHeartbeats 2000000 in
set_option maxRecDepth 100000 in
/-- WriteString: the string's bytes stand behind what the builder held. -/
theorem write_any (B b : Nat) (bs : List Value) (s : ByteArray) (w : World) (h : Lib.IsBuilder 61 5 B b bs w) (hlen : bs.length + s.size ≤ 140737488355328) (hBw : B ≤ w.heap.size) :
    Calls Tryd.prog 28 #[.pointer (some ⟨b, 0, none⟩), .string s] w fun e w' => e = .returned (.tuple #[.int .i64 s.size, .nilIface]) ∧ (Lib.BuilderAt 61 5 B b (.pointer (some ⟨b, 0, none⟩)) (bs ++ Lib.strCells s) w' ∧ Below B w w') := by
  obtain ⟨i0, hi, hz0, hz1, hz2⟩ := info_parts info_b
  go_enter Tryd.func28, Tryd.ntmps28
  go_wp2_with (go_at_call 37; refine (copyCheck_any B b bs _ h).mono ?_)
  rintro e w1 ⟨rfl, h1, hb1⟩
  obtain ⟨hB, v, hbk, hown, hne⟩ := h1
  have c0 : w1.cell? ⟨b, 0, none⟩ = some (.pointer (some ⟨b, 0, none⟩)) := by rw [Lib.cell_of_heap hbk]; rfl
  have c1 : w1.cell? ⟨b, 1, none⟩ = some v := by rw [Lib.cell_of_heap hbk]; rfl
  go_wp2_with (at_builtin; refine Lib.wpList_append_own_string _ rfl _ _ 23 9 rfl B 5 i0 Tryd.underlying23 Tryd.underlying9 hi hz0 hz1 hz2 _ _ _ rfl hown s rfl ?c3 ?c4 ?c5 ?_)
  case c3 => unfold maxLen; omega
  case c4 => omega
  case c5 => have := hb1.size; omega
  intro v' w2 hown' hgrow _
  have hlt : b < w1.heap.size := (Array.getElem?_eq_some_iff.1 hbk).1
  have hb2 : w2.heap[b]? = some (.cells #[.pointer (some ⟨b, 0, none⟩), v] 61 (0, 0)) := by
    rw [hgrow.block b hlt (fun e => hne e.symm)]
    exact hbk
  have d0 : w2.cell? ⟨b, 0, none⟩ = some (.pointer (some ⟨b, 0, none⟩)) := by rw [Lib.cell_of_heap hb2]; rfl
  have d1 : w2.cell? ⟨b, 1, none⟩ = some v := by rw [Lib.cell_of_heap hb2]; rfl
  have f1 : w2.frozen? ⟨b, 1, none⟩ = false := Lib.frozen_of_heap hb2 1
  obtain ⟨ao, n', cap, rfl⟩ : ∃ ao n' cap, v' = .slice ao n' cap := by
    rcases hown'.2 with ⟨hv, _⟩ | ⟨g, cap, cur, hv, _⟩
    · exact ⟨_, _, _, hv⟩
    · exact ⟨_, _, _, hv⟩
  go_wp2
  go_ret2
  refine ⟨rfl, ?_, ?_⟩
  · exact Lib.BuilderAt.put (T := 61) (e := 5) hB hb2 (bs' := bs ++ Lib.strCells s) (by simpa [Lib.strCells_length] using hown') (by decide)
  · exact (hb1.grown hgrow (by have := hb1.size; omega) (fun k hk => (hown.lt k hk).1)).setCell (p := ⟨b, 1, none⟩) hB _
end Go.Proofs.YtldimdlobgnnpaaDoor
namespace Go.Proofs.YtldimdlobgnnpaaDoor
open Go.RowKit Go.Proofs.YtldimdlobgnnpaaDoorW.PrintWords

abbrev BuilderHas (B b : Nat) (l : List UInt8) (w : World) : Prop := Lib.IsBuilder 61 5 B b (Lib.byteCells l) w
theorem builder_below {B b : Nat} {bs : List Value} {w w' : World} (h : Lib.IsBuilder 61 5 B b bs w) (hb : Below w.heap.size w w') : Lib.IsBuilder 61 5 B b bs w' := by
  rcases h with ⟨hB, v, hk, hown, hne⟩ | ⟨hB, v, hk, hown, hne⟩
  · exact .inl ⟨hB, v, (hb.block _ (blk_lt hk)).trans hk, pw_own_below hown hb, hne⟩
  · exact .inr ⟨hB, v, (hb.block _ (blk_lt hk)).trans hk, pw_own_below hown hb, hne⟩
theorem builder_new (w : World) : BuilderHas w.heap.size w.heap.size [] (w.alloc (.cells #[.pointer none, .slice none 0 0] 61)) :=
  .inl ⟨Nat.le_refl _, .slice none 0 0, heap_alloc_new w _, own_nil _ _ _ _, by simp [Value.ownBlock]⟩
theorem write_has (B b : Nat) (l m : List UInt8) (w : World) (h : BuilderHas B b l w) (hlen : l.length + m.length ≤ 140737488355328) (hBw : B ≤ w.heap.size) :
    Calls Tryd.prog 28 #[.pointer (some ⟨b, 0, none⟩), .string (mkS m)] w fun e w' => e = .returned (.tuple #[.int .i64 m.length, .nilIface]) ∧ BuilderHas B b (l ++ m) w' ∧ Below B w w' := by
  refine (write_any B b _ (mkS m) w h (by simp [Lib.byteCells]; omega) hBw).mono ?_
  rintro e w' ⟨rfl, h1, h2⟩
  refine ⟨by simp, .inr ?_, h2⟩
  have e : Lib.byteCells l ++ Lib.strCells (mkS m) = Lib.byteCells (l ++ m) := by rw [Lib.strCells_eq, data_mkS]; simp [Lib.byteCells]
  rw [e] at h1
  exact h1
theorem string_has (B b : Nat) (l : List UInt8) (w : World) (h : BuilderHas B b l w) (hBw : B ≤ w.heap.size) :
    Calls Tryd.prog 29 #[.pointer (some ⟨b, 0, none⟩)] w fun e w' => e = .returned (.string (mkS l)) ∧ Below B w w' := Tryd.Builder_String_any B b l w h hBw
theorem joinL_append (a b : List (List UInt8 × List UInt8)) : joinL (a ++ b) = joinL a ++ joinL b := by
  unfold joinL
  rw [List.map_append, List.flatten_append]
theorem join_snoc (l : List (List UInt8 × List UInt8)) (i : Nat) (h : i < l.length) : joinL (l.take (i + 1)) = joinL (l.take i) ++ putR l[i].1 l[i].2 := by
  rw [List.take_succ_eq_append_getElem h, joinL_append]
  congr 1
  simp only [joinL, List.map_cons, List.map_nil, List.flatten_cons, List.flatten_nil, List.append_nil]
theorem join_take_le (l : List (List UInt8 × List UInt8)) (i : Nat) : (joinL (l.take i)).length ≤ (joinL l).length := by
  have h := joinL_append (l.take i) (l.drop i)
  rw [List.take_append_drop] at h
  rw [h, List.length_append]
  omega
set_option maxHeartbeats 2000000 in
set_option maxRecDepth 100000 in
theorem join_any (A : Option Addr) (c : Nat) (l : List (List UInt8 × List UInt8)) (w : World) (hG : Good w) (hC : Kd.C k25 w A l.length (l.map toS)) (hc : l.length ≤ c) (hl : l.length ≤ 1000000)
    (hb : ∀ x ∈ l, x.1.length + x.2.length ≤ 1000000) (hj : (joinL l).length ≤ 140737488355328) :
    Calls Tryd.prog 21 #[.slice A l.length c] w fun e w' => e = .returned (.string (mkS (joinL l))) ∧ Below w.heap.size w w' := by
  have HC := Aside0.mk hC
  have HG := Aside0.mk hG
  have HJ := Aside0.mk hj
  have HBD := Aside0.mk hb
  clear hC hG hj hb
  have hnew := Aside0.mk (builder_new w)
  have hb0 := Aside0.mk (below_alloc (Below.refl w.heap.size w) (.cells #[.pointer none, .slice none 0 0] 61))
  go_enter Tryd.func21, Tryd.ntmps21
  go_wp2_with fail
  go_loopw [8] (fun v wr => ∃ i : Nat, i ≤ l.length ∧ v = .int .i64 i ∧ Aside0 (BuilderHas w.heap.size w.heap.size (joinL (l.take i)) wr) ∧ Aside0 (Below w.heap.size w wr)) (fun v _ => l.length - (intOf v).toNat)
  case atStart => exact ⟨0, Nat.zero_le _, rfl, hnew, hb0⟩
  case round =>
    obtain ⟨i, hi, rfl, HS, HB⟩ := hrel
    by_cases hlt : i < l.length
    · obtain ⟨ad, rfl, h0, h1⟩ := at_T25 (Kd.C_below HC.out HB.out) (i : Int) (by omega) (by omega)
      have e : rd_T25 (l.map toS) (i : Int) = toS l[i] := by
        unfold rd_T25
        rw [Int.toNat_natCast, List.getD_eq_getElem?_getD, List.getElem?_map, List.getElem?_eq_getElem hlt]
        rfl
      rw [e, Int.toNat_natCast] at h0 h1
      have hbd := HBD.out l[i] (List.getElem_mem _)
      have hsn := join_snoc l i hlt
      have hle := join_take_le l (i + 1)
      rw [hsn, List.length_append] at hle
      unfold toS at h0 h1
      simp only at h0 h1
      generalize l[i].1 = k at *
      generalize l[i].2 = v at *
      have HSN := Aside0.mk hsn
      have HLE := Aside0.mk hle
      clear hsn hle e
      have HB2 := Aside0.mk (below_alloc HB.out (.cells #[.string (mkS k), .string (mkS v)] 25))
      have HS2 := Aside0.mk (builder_below HS.out (below_alloc (Below.refl wr.heap.size wr) (.cells #[.string (mkS k), .string (mkS v)] 25)))
      go_wp2_with (first
        | (go_at_call 8; refine (putR_any k v _ (HG.out.below HB2.out) hbd).mono ?_; rintro e w3 ⟨rfl, hb3⟩; have HS3 := Aside0.mk (builder_below HS2.out hb3); have HB3 := Aside0.mk (below_next HB2.out hb3))
        | (go_at_call 28; refine (write_has w.heap.size w.heap.size _ (putR k v) _ HS3.out (by have := HLE.out; have := HJ.out; omega) HB3.out.size).mono ?_; rintro e w4 ⟨rfl, hS4, hb4⟩; have HS4 := Aside0.mk hS4; have HB4 := Aside0.mk (HB3.out.trans hb4); clear hS4 hb4))
      go_roundw
      case measure => simp [intOf]; omega
      case rel => exact ⟨i + 1, by omega, by go_num, ⟨by rw [HSN.out]; exact HS4.out⟩, HB4⟩
    · obtain rfl : i = l.length := by omega
      go_wp2_with (go_at_call 29; refine (string_has w.heap.size w.heap.size _ _ HS.out HB.out.size).mono ?_; rintro e w4 ⟨rfl, hb4⟩)
      go_ret
      exact ⟨rfl, HB.out.trans hb4⟩
end Go.Proofs.YtldimdlobgnnpaaDoor
namespace Go.Proofs.YtldimdlobgnnpaaDoor
open Go.RowKit Go.Proofs.YtldimdlobgnnpaaDoorW.PrintWords

def dotB (b : UInt8) : UInt8 := if b = 0 ∨ b = 61 then 46 else b
def keyL (k : ByteArray) : List UInt8 := (107 :: k.data.toList).map dotB
def recsL (ks vs : List ByteArray) : List (List UInt8 × List UInt8) := ((ks.zip vs).take 20).map fun x => (keyL x.1, x.2.data.toList)
theorem recs_length (ks vs : List ByteArray) : (recsL ks vs).length = min 20 (min ks.length vs.length) := by simp [recsL]
theorem recs_at (ks vs : List ByteArray) (i : Nat) (h1 : i < ks.length) (h2 : i < vs.length) (h3 : i < 20) : (recsL ks vs).take (i + 1) = (recsL ks vs).take i ++ [(keyL ks[i], vs[i].data.toList)] := by
  have hl : i < (recsL ks vs).length := by rw [recs_length]; omega
  rw [List.take_succ_eq_append_getElem hl]
  congr 2
  simp [recsL]
/-- Bytes of which the first ones are turned. -/
def dotTo (l : List UInt8) (j : Nat) : List UInt8 := (l.take j).map dotB ++ l.drop j
theorem dotTo_length (l : List UInt8) (j : Nat) : (dotTo l j).length = l.length := by simp [dotTo]; omega
theorem dotTo_zero (l : List UInt8) : dotTo l 0 = l := by simp [dotTo]
theorem dotTo_all (l : List UInt8) : dotTo l l.length = l.map dotB := by simp [dotTo]
theorem dotTo_at (l : List UInt8) (j : Nat) (h : j < l.length) : (dotTo l j).getD j 0 = l[j] := by
  unfold dotTo
  rw [List.getD_eq_getElem?_getD, List.getElem?_append_right (by simp; omega)]
  simp only [List.length_map, List.length_take, List.getElem?_drop]
  rw [show min j l.length = j by omega, show j + (j - j) = j by omega, List.getElem?_eq_getElem h]
  rfl
theorem dotTo_set (l : List UInt8) (j : Nat) (h : j < l.length) (hb : dotB l[j] = 46) : (dotTo l j).set j 46 = dotTo l (j + 1) := by
  unfold dotTo
  rw [List.set_append_right _ _ (by simp; omega)]
  simp only [List.length_map, List.length_take]
  rw [show min j l.length = j by omega, Nat.sub_self, List.drop_eq_getElem_cons h, List.set_cons_zero, List.take_succ_eq_append_getElem h, List.map_append, List.append_assoc]
  simp [hb]
theorem dotTo_skip (l : List UInt8) (j : Nat) (h : j < l.length) (hb : dotB l[j] = l[j]) : dotTo l j = dotTo l (j + 1) := by
  unfold dotTo
  rw [List.drop_eq_getElem_cons h, List.take_succ_eq_append_getElem h, List.map_append, List.append_assoc]
  simp [hb]
theorem Bytes.grown {W W1 : World} {g : Nat} {l : List UInt8} {o : Option Nat} (h : Bytes W g l) (hb : W.grownBy W1 o) (hne : o ≠ some g) : Bytes W1 g l := by
  have e := hb.block g h.lt (fun he => hne he.symm)
  refine ⟨fun j hj => ?_, fun j hj => ?_, ?_⟩
  · rw [← h.cell j hj]; simp only [World.cell?, e]
  · rw [← h.free j hj]; simp only [World.frozen?, e]
  · exact Nat.lt_of_lt_of_le h.lt hb.size
theorem rec_append_step {ops : Array Oper} {o : Oper} {a : Act} {Kc : Act → World → Prop} {Q : Exit → Act → World → Prop} {E : Prop} (hgd : o.guard = none) (s x : Operand)
    (ho : o.op = .call { callee := .builtin .append, args := #[s, x], argTypes := #[39, 39] }) {w0 W : World} (base : Nat) (v : Value) (xs ys : List RecS) (A : Option Addr) (m c : Nat) (hs : a.eval s = v) (hx : a.eval x = .slice A m c)
    (HO : Kd.R k25 25 W base (fun _ => True) v xs) (HR : Kd.C k25 W A m ys) (HB : Below base w0 W) (hbase : base ≤ W.heap.size) (hl : xs.length + m ≤ 100000)
    (h : ∀ v1 w1, Kd.R k25 25 w1 base (fun _ => True) v1 (xs ++ ys) → Below base w0 w1 → W.grownBy w1 v.ownBlock → Kc (a.put o.dst v1) w1) : if Region.wanted o (yielded ops a.tmps) = true then Oper.wp Tryd.prog o a W Kc Q else E := by
  have hw : Region.wanted o (yielded ops a.tmps) = true := by simp [Region.wanted, hgd]
  have hh := Kd.R_append_rows_step (ops := ops) (Q := Q) (Kc := Kc) k25 (Rr := (k25).K W) (w0 := w0) base hw s x 39 25 (.agg #[(.string ⟨#[]⟩), (.string ⟨#[]⟩)]) 32 ho Tryd.underlying39 info25 rfl (by decide) (by omega) v xs ys A m c (fun _ => True) (fun _ => False) hs hx HO HR (fun x cs h => rec_KM h) (fun _ hk => hk.elim) (fun _ _ => trivial) HB hbase (by omega) (fun v1 w1 h1 h2 h3 _ => h v1 w1 h1 h2 h3)
  rw [if_pos hw] at hh ⊢
  exact hh
set_option maxHeartbeats 2000000 in
set_option maxRecDepth 100000 in
theorem recs_any (A : Option Addr) (c : Nat) (ks : List ByteArray) (A1 : Option Addr) (c1 : Nat) (vs : List ByteArray) (w : World) (hK : Kd.C Kd.string w A ks.length ks) (hV : Kd.C Kd.string w A1 vs.length vs) (hb : ∀ s ∈ ks, s.size ≤ 140737488351232) :
    Calls Tryd.prog 20 #[.slice A ks.length c, .slice A1 vs.length c1] w fun e w' => ∃ v, e = .returned v ∧ Kd.R k25 25 w' w.heap.size (fun _ => True) v ((recsL ks vs).map toS) ∧ Below w.heap.size w w' := by
  have HK := Aside0.mk hK
  have HV := Aside0.mk hV
  have HBD := Aside0.mk hb
  clear hK hV hb
  go_enter Tryd.func20, Tryd.ntmps20
  go_wp2_with fail
  go_loopw [5, 6] (fun o v wr => ∃ i : Nat, i ≤ (recsL ks vs).length ∧ v = .int .i64 i ∧ Aside0 (Kd.R k25 25 wr w.heap.size (fun _ => True) o (((recsL ks vs).take i).map toS)) ∧ Aside0 (Below w.heap.size w wr)) (fun _ v _ => (recsL ks vs).length - (intOf v).toNat)
  case atStart => exact ⟨0, Nat.zero_le _, rfl, ⟨Kd.R_nil _ _ _ _ _⟩, ⟨Below.refl _ _⟩⟩
  case round =>
    obtain ⟨i, hi, rfl, HR, HB⟩ := hrel
    obtain ⟨wo, hwo⟩ : ∃ wo : World, wo = wr := ⟨wr, rfl⟩
    subst hwo
    have hlen := recs_length ks vs
    by_cases h1 : i < ks.length
    · by_cases h2 : i < vs.length
      · by_cases h3 : i < 20
        · obtain ⟨ad, rfl, k0⟩ := Kd.at_string (Kd.C_below HK.out HB.out) (i : Int) (by omega) (by omega)
          obtain ⟨ad1, e1, v0⟩ := Kd.at_string (Kd.C_below HV.out HB.out) (i : Int) (by omega) (by omega)
          subst e1
          have ek : rdOf ByteArray.empty ks (i : Int) = ks[i] := by unfold rdOf; simp [h1]
          have ev : rdOf ByteArray.empty vs (i : Int) = vs[i] := by unfold rdOf; simp [h2]
          rw [ek, Int.toNat_natCast] at k0
          clear v0
          have HVA := Aside0.mk (fun W (hb : Below w.heap.size w W) => show W.cell? (ad1.add i) = some (.string vs[i]) from by
            obtain ⟨ad', e', h'⟩ := Kd.at_string (Kd.C_below HV.out hb) (i : Int) (by omega) (by omega)
            obtain rfl := Option.some.inj e'
            rw [ev, Int.toNat_natCast] at h'
            exact h')
          have hsn := recs_at ks vs i h1 h2 h3
          have hbd := HBD.out ks[i] (List.getElem_mem _)
          have hlt : i < (recsL ks vs).length := by omega
          unfold keyL at hsn
          generalize ks[i] = k at *
          generalize vs[i] = v at *
          rw [← mkS_data k] at k0 hbd
          rw [size_mkS] at hbd
          generalize k.data.toList = kl at *
          have HSN := Aside0.mk hsn
          have hi1 : (i : Int) < (ks.length : Int) := by omega
          have hi2 : (i : Int) < (vs.length : Int) := by omega
          have hi3 : (i : Int) < 20 := by omega
          obtain ⟨l, hl⟩ : ∃ l, 107 :: kl = l := ⟨_, rfl⟩
          have HL := Aside0.mk hl
          have hll : l.length ≤ 140737488351233 := by rw [← hl]; simp; omega
          have a1 := fun W => str_add (P := Tryd.prog) (s := ⟨#[107]⟩) (t := mkS kl) (a := [107]) (b := kl) (c := l) rfl rfl hl (by omega) W
          clear hsn ek ev h1 h2 h3
          obtain ⟨w5, cap, hcv, hb5, hz5, hB5⟩ := conv_world (P := Tryd.prog) wo 9 23 5 (mkS l) Tryd.underlying9 Tryd.underlying23 Tryd.underlying5
          rw [data_mkS] at hB5
          rw [size_mkS] at hcv
          clear hl
          go_wp2_with fail
          have HB5 := Aside0.mk hB5
          have hbb := Aside0.mk hb5
          clear hcv hB5 hb5 a1
          go_loopw [8] (fun v wq => ∃ j : Nat, j ≤ l.length ∧ v = .int .i64 j ∧ Aside0 (Bytes wq wo.heap.size (dotTo l j)) ∧ Aside0 (Below wo.heap.size wo wq)) (fun v _ => l.length - (intOf v).toNat)
          case atStart => exact ⟨0, Nat.zero_le _, rfl, ⟨by rw [dotTo_zero]; exact HB5.out⟩, hbb⟩
          case round =>
            obtain ⟨j, hj, rfl, HBY, HBQ⟩ := hrel
            by_cases hjl : j < l.length
            · have hjl' : (j : Int) < (l.length : Int) := by omega
              have hd2 : j < (dotTo l j).length := by rw [dotTo_length]; exact hjl
              have c0 := HBY.out.cell j hd2
              have f0 := HBY.out.free j hd2
              rw [dotTo_at l j hjl] at c0
              have hset := HBY.out.set j hd2 46
              have HS := Aside0.mk (fun h : dotB l[j] = 46 => dotTo_set l j hjl h ▸ hset)
              have HK2 := Aside0.mk (fun h : dotB l[j] = l[j] => dotTo_skip l j hjl h ▸ HBY.out)
              clear hset hd2
              generalize l[j] = b at *
              have hw1 : IntKind.i64.wrap ((j : Int) + 1) = (j : Int) + 1 := by rw [IntKind.wrap_i64]; omega
              by_cases hb0 : b = 0
              · subst hb0
                go_wp2_with fail
                exact ⟨⟨j + 1, by omega, by go_num, ⟨by simpa using HS.out (by decide)⟩, ⟨HBQ.out.setCell (Nat.le_refl _) _⟩⟩, by simp [intOf]; omega⟩
              · by_cases hb1 : b = 61
                · subst hb1
                  go_wp2_with fail
                  exact ⟨⟨j + 1, by omega, by go_num, ⟨by simpa using HS.out (by decide)⟩, ⟨HBQ.out.setCell (Nat.le_refl _) _⟩⟩, by simp [intOf]; omega⟩
                · have HD := Aside0.mk (HK2.out (by unfold dotB; rw [if_neg (by simp [hb0, hb1])]))
                  have e0 : ((b.toNat : Int) == 0) = false := by
                    have : b.toNat ≠ 0 := fun h => hb0 (UInt8.toNat_inj.1 h)
                    simp; omega
                  have e1 : ((b.toNat : Int) == 61) = false := by
                    have : b.toNat ≠ 61 := fun h => hb1 (UInt8.toNat_inj.1 h)
                    simp; omega
                  clear hb0 hb1
                  go_wp2_with fail
                  exact ⟨⟨j + 1, by omega, by go_num, HD, HBQ⟩, by simp [intOf]; omega⟩
            · obtain rfl : j = l.length := by omega
              rw [dotTo_all] at HBY
              have HB2 := Aside0.mk (below_next HB.out HBQ.out)
              have KQ := Aside0.mk (fun W (hb : Below w.heap.size w W) (hy : Bytes W wo.heap.size (l.map dotB)) => And.intro (HVA.out W hb) (And.intro (hy.back (P := Tryd.prog) 23 9 5 cap l.length (by simp) Tryd.underlying23 Tryd.underlying5 Tryd.underlying9) (Aside0.mk hb)))
              have KP := Aside0.mk (fun W (hb : Below wr.heap.size wr W) => KQ.out W (below_next HB2.out hb) (HBY.out.below hb HBY.out.lt))
              have HR0 := Aside0.mk (Below.refl wr.heap.size wr)
              have HOW := Aside0.mk (fun k hk => Kd.R_lt HR.out k hk)
              go_wp2_with fail
              obtain ⟨b0, b1, b2⟩ := KP.out _ HR0.out
              go_region_held3 (fun w' => w'.cell? (ad1.add i) = some (.string v) ∧ (convert 23 9 (.slice (some ⟨wo.heap.size, 0, none⟩) l.length cap)).run Tryd.prog w' = .ok (.string (mkS (l.map dotB))) w' ∧ Aside0 (Below w.heap.size w w'))
                (first
                  | exact KQ.out _ hbq hbyq
                  | exact KP.out _ (by go_grown))
                ((refine rec_append_step (o := ⟨some 61, _, _, _, _, _⟩) (by rfl) (.tmp 52) (.tmp 60) (by rfl) (w0 := w) w.heap.size _ (((recsL ks vs).take i).map toS) [⟨mkS (l.map dotB), v⟩] _ _ _ (by rfl) (by rfl) (Kd.R_below HR.out (below_next HBQ.out (by go_grown))) (rec_one (by first | exact heap_alloc_new _ _ | exact blk_drew (heap_alloc_new _ _))) (below_next HB2.out (by go_grown)) (by have := HB2.out.size; simp; omega) (by simp; omega) ?_
                  intro v61 w61 hR61 hbq hg61
                  have hbyq : Bytes w61 wo.heap.size (l.map dotB) := (HBY.out.below (B := wr.heap.size) (W' := _) (by go_grown) HBY.out.lt).grown hg61 (fun he => Nat.lt_irrefl _ (HOW.out _ he))))
              go_wp2_with fail
              go_roundw
              case measure => simp [intOf]; omega
              case rel => exact ⟨i + 1, by omega, by go_num, ⟨by rw [HSN.out, List.map_append, HL.out]; exact hR61⟩, ⟨hbq⟩⟩
        · have hi1 : (i : Int) < (ks.length : Int) := by omega
          have hi2 : (i : Int) < (vs.length : Int) := by omega
          obtain rfl : i = 20 := by omega
          have HE := Aside0.mk (show (recsL ks vs).take 20 = recsL ks vs from List.take_of_length_le (by omega))
          go_wp2_with fail
          go_ret
          exact ⟨_, rfl, by rw [← HE.out]; exact HR.out, HB.out⟩
      · have hi1 : (i : Int) < (ks.length : Int) := by omega
        have hi2 : (vs.length : Int) ≤ (i : Int) := by omega
        have HE := Aside0.mk (show (recsL ks vs).take i = recsL ks vs from List.take_of_length_le (by omega))
        go_wp2_with fail
        go_ret
        exact ⟨_, rfl, by rw [← HE.out]; exact HR.out, HB.out⟩
    · have hi1 : (ks.length : Int) ≤ (i : Int) := by omega
      have HE := Aside0.mk (show (recsL ks vs).take i = recsL ks vs from List.take_of_length_le (by omega))
      go_wp2_with fail
      go_ret
      exact ⟨_, rfl, by rw [← HE.out]; exact HR.out, HB.out⟩
end Go.Proofs.YtldimdlobgnnpaaDoor
namespace Go.Proofs.YtldimdlobgnnpaaDoor
open Go.ChangeShapes Go.WideShapes
theorem weightsAll_in {H : Type} {P : Program} {e : TypeId} : ∀ {l : List (DataW H)} {d : DataW H}, d ∈ l → ∀ n ∈ d.weights P e, n ∈ DataW.weightsAll P e l
  | x :: l, d, h, n, hn => by
    simp only [DataW.weightsAll, List.mem_append]
    rcases List.mem_cons.1 h with rfl | h
    · exact Or.inl hn
    · exact Or.inr (weightsAll_in h n hn)
theorem sized_strs {H : Type} {P : Program} {ts : List TypeId} {ds : List (DataW H)} {j : Nat} {t e : TypeId} {l r : List ByteArray} (hsz : (DataW.weightsEach P ts ds).all (· ≤ reachBytes) = true) (ht : ts[j]? = some t) (hd : ds[j]? = some (.slice (strs l) (strs r))) (hu : P.underlying t = some (.slice e)) :
    ∀ s ∈ l, s.size ≤ 140737488351232 := by
  intro s hs
  have hm : (DataW.lit (.string s.data.toList) : DataW H) ∈ strs (H := H) l := List.mem_map.2 ⟨s, hs, rfl⟩
  have hw := weightsAll_in (P := P) (e := e) hm s.data.toList.length (by simp [DataW.weights])
  have := List.all_eq_true.1 hsz _ (DataW.weights_mem_each ht hd s.data.toList.length (by
    simp only [DataW.weights, hu, List.mem_cons, List.mem_append]
    exact Or.inr (Or.inl hw)))
  have h2 : s.data.toList.length ≤ reachBytes := of_decide_eq_true this
  rw [Array.length_toList] at h2
  exact h2
end Go.Proofs.YtldimdlobgnnpaaDoor
namespace Go.Proofs.YtldimdlobgnnpaaDoor
open Go.RowKit Go.Proofs.YtldimdlobgnnpaaDoorW.PrintWords Go.Proofs.YtldimdlobgnnpaaDoor.PRecN Go.Proofs.YtldimdlobgnnpaaDoor.PRecR
attribute [local go_sem high] PRecN.eqA25

theorem dotB_ne (b : UInt8) : dotB b ≠ 0 ∧ dotB b ≠ 61 := by
  unfold dotB
  split
  · decide
  · rename_i h
    exact ⟨fun e => h (.inl e), fun e => h (.inr e)⟩
theorem key_may (k : ByteArray) (v : List UInt8) (hk : (keyL k).length ≤ 200) (hv : v.length ≤ 300) : mayR (keyL k) v = true ∧ (putR (keyL k) v).length ≤ 530 := by
  have hp := (recNum_spec (restL (keyL k) v).length (by rw [restL_len]; omega))
  have hl := putL_len (keyL k) v (by rw [restL_len]; omega)
  have h : mayR (keyL k) v = true := by
    refine may_iffR.2 ⟨by simp [keyL], by omega, ?_, ?_, ?_⟩
    · intro h
      obtain ⟨b, _, hb⟩ := List.mem_map.1 h
      exact (dotB_ne b).1 hb
    · intro h
      obtain ⟨b, _, hb⟩ := List.mem_map.1 h
      exact (dotB_ne b).2 hb
    · rw [hl]; rw [restL_len] at hp ⊢; omega
  refine ⟨h, ?_⟩
  unfold putR
  rw [if_pos h, hl]
  rw [restL_len] at hp ⊢
  omega
theorem joinL_le : ∀ l : List (List UInt8 × List UInt8), (∀ x ∈ l, (putR x.1 x.2).length ≤ 530) → (joinL l).length ≤ l.length * 530
  | [], _ => Nat.zero_le _
  | x :: l, h => by
    have ih := joinL_le l (fun y hy => h y (by simp [hy]))
    have h1 := h x (by simp)
    unfold joinL at ih ⊢
    rw [List.map_cons, List.flatten_cons, List.length_append, List.length_cons]
    omega
theorem recs_fit (ks vs : List ByteArray) (h : ∀ x ∈ recsL ks vs, x.1.length ≤ 200 ∧ x.2.length ≤ 300) : (∀ x ∈ recsL ks vs, mayR x.1 x.2 = true) ∧ (joinL (recsL ks vs)).length ≤ 10600 := by
  have hk : ∀ x ∈ recsL ks vs, mayR x.1 x.2 = true ∧ (putR x.1 x.2).length ≤ 530 := by
    intro x hx
    have hb := h x hx
    unfold recsL at hx
    obtain ⟨y, _, rfl⟩ := List.mem_map.1 hx
    exact key_may _ _ hb.1 hb.2
  refine ⟨fun x hx => (hk x hx).1, ?_⟩
  have := joinL_le (recsL ks vs) (fun x hx => (hk x hx).2)
  have := recs_length ks vs
  omega
/-- All of the bytes with one turned. -/
theorem back_all (L : List (List UInt8 × List UInt8)) (s t : List UInt8) (hs : joinL L = s) (ht : t ≠ s) : (allL t = none) ∨ ∃ l, allL t = some l ∧ l ≠ L ∧ l.length ≤ t.length := by
  cases h : allL t with
  | none => exact .inl rfl
  | some l =>
    obtain ⟨h1, h2⟩ := join_all _ t l h
    refine .inr ⟨l, rfl, ?_, ?_⟩
    · rintro rfl
      exact ht (h1.symm.trans hs)
    · have := joinL_len l h2
      rw [h1] at this
      exact this
theorem xor_ne (x b : UInt8) (h : b ≠ 0) : x ^^^ b ≠ x := by
  intro e
  apply h
  have : x ^^^ (x ^^^ b) = x ^^^ x := by rw [e]
  rw [← UInt8.xor_assoc, UInt8.xor_self, UInt8.zero_xor] at this
  exact this
theorem set_ne (l : List UInt8) (i : Nat) (h : i < l.length) (b : UInt8) (hb : b ≠ 0) : l.set i (l[i] ^^^ b) ≠ l := by
  intro e
  have := congrArg (fun q => q[i]?) e
  simp [h] at this
  exact xor_ne _ _ hb this
theorem set_same (l : List UInt8) (i : Nat) (h : i < l.length) : l.set i (l[i] ^^^ 0) = l := by
  simp
theorem joinL_first (L : List (List UInt8 × List UInt8)) (h : 0 < L.length) : joinL L = putR L[0].1 L[0].2 ++ joinL (L.drop 1) := by
  cases L with
  | nil => simp at h
  | cons x L => rfl
theorem sameRecs_any (A : Option Addr) (c : Nat) (L : List (List UInt8 × List UInt8)) (A1 : Option Addr) (c1 : Nat) (M : List (List UInt8 × List UInt8)) (b : Bool) (h : decide (L = M) = b) (w : World) (hC : Kd.C k25 w A L.length (L.map toS)) (hc : L.length ≤ c) (hD : Kd.C k25 w A1 M.length (M.map toS)) (hd : M.length ≤ c1) (hl : L.length ≤ 70000) :
    Calls Tryd.prog 19 #[.slice A L.length c, .slice A1 M.length c1] w fun e w' => e = .returned (.bool b) ∧ Below w.heap.size w w' := by
  obtain ⟨K, hK⟩ : ∃ K : Nat, 70001 ≤ K := ⟨70001, Nat.le_refl _⟩
  have := gripsackref1_SameRecs.calls K A c (L.map toS) A1 c1 (M.map toS) b w (by rw [List.length_map]; exact hC) (by rw [List.length_map]; exact hc) (by rw [List.length_map]; exact hD) (by rw [List.length_map]; exact hd) (by rw [same_f L M K (by omega) (by omega), h])
  rw [List.length_map, List.length_map] at this
  exact this.mono fun e w' ⟨he, hd⟩ => ⟨he, below_drawn hd⟩
set_option maxHeartbeats 4000000 in
set_option maxRecDepth 100000 in
theorem recBack_main (A : Option Addr) (c : Nat) (ks : List ByteArray) (A1 : Option Addr) (c1 : Nat) (vs : List ByteArray) (at_ by_ : Int) (w : World) (hG : Good w) (hK : Kd.C Kd.string w A ks.length ks) (hV : Kd.C Kd.string w A1 vs.length vs) (hb : ∀ s ∈ ks, s.size ≤ 140737488351232) (hv : ∀ s ∈ vs, s.size ≤ 140737488351232) (h0 : 0 ≤ at_ ∧ at_ ≤ 65535) (h1 : 0 ≤ by_ ∧ by_ ≤ 255) :
    Calls Tryd.prog 7 #[.slice A ks.length c, .slice A1 vs.length c1, .int .u16 at_, .int .u8 by_] w fun e w' => e = .returned (.bool true) ∧ Below w.heap.size w w' := by
  have hrecs := recs_any A c ks A1 c1 vs w hK hV hb
  have HG := Aside0.mk hG
  have hvl : ∀ x ∈ recsL ks vs, x.2.length ≤ 140737488351232 := by
    intro x hx
    unfold recsL at hx
    obtain ⟨y, hy, rfl⟩ := List.mem_map.1 hx
    have := hv y.2 (List.of_mem_zip (List.mem_of_mem_take hy)).2
    simpa using this
  have hkl : ∀ x ∈ recsL ks vs, x.1.length ≤ 140737488351233 := by
    intro x hx
    unfold recsL at hx
    obtain ⟨y, hy, rfl⟩ := List.mem_map.1 hx
    have := hb y.1 (List.of_mem_zip (List.mem_of_mem_take hy)).1
    simp [keyL]
    simpa using this
  have hfit := recs_fit ks vs
  have hnl : (recsL ks vs).length ≤ 20 := by rw [recs_length]; omega
  clear hG hK hV hb hv
  obtain ⟨L, hL⟩ : ∃ L, recsL ks vs = L := ⟨_, rfl⟩
  rw [hL] at hrecs hvl hkl hfit hnl
  have HVL := Aside0.mk hvl
  have HKL := Aside0.mk hkl
  have HFIT := Aside0.mk hfit
  clear hvl hkl hfit hL
  go_enter Tryd.func7, Tryd.ntmps7
  go_wp2_with fail
  refine hrecs.mono ?_
  rintro e w1 ⟨v, rfl, hR, hb1⟩
  obtain ⟨A2, c2, rfl, hc2, hC2⟩ := Kd.R_reads hR
  rw [List.length_map] at hc2 hC2
  have HC := Aside0.mk hC2
  have HB1 := Aside0.mk hb1
  clear hR hC2 hb1 hrecs
  simp only [List.length_map]
  go_wp2_with fail
  go_loopw [10] (fun v wr => ∃ j : Nat, j ≤ L.length ∧ v = .int .i64 j ∧ wr = w1 ∧ Aside0 (∀ x ∈ L.take j, x.1.length ≤ 200 ∧ x.2.length ≤ 300)) (fun v _ => L.length - (intOf v).toNat)
  case atStart => exact ⟨0, Nat.zero_le _, rfl, rfl, ⟨by simp⟩⟩
  case round =>
    obtain ⟨j, hj, rfl, rfl, HA⟩ := hrel
    by_cases hlt : j < L.length
    · obtain ⟨ad, e2, p0, p1⟩ := at_T25 HC.out (j : Int) (by omega) (by omega)
      subst e2
      have e : rd_T25 (L.map toS) (j : Int) = toS L[j] := by
        unfold rd_T25
        rw [Int.toNat_natCast, List.getD_eq_getElem?_getD, List.getElem?_map, List.getElem?_eq_getElem hlt]
        rfl
      rw [e, Int.toNat_natCast] at p0 p1
      have q0 := HKL.out L[j] (List.getElem_mem _)
      have q1 := HVL.out L[j] (List.getElem_mem _)
      have HT := Aside0.mk (fun (h : L[j].1.length ≤ 200 ∧ L[j].2.length ≤ 300) => show ∀ x ∈ L.take (j + 1), x.1.length ≤ 200 ∧ x.2.length ≤ 300 from by
        intro x hx
        rw [List.take_succ_eq_append_getElem hlt] at hx
        rcases List.mem_append.1 hx with hx | hx
        · exact HA.out x hx
        · rw [List.mem_singleton.1 hx]; exact h)
      unfold toS at p0 p1
      simp only at p0 p1
      clear e
      generalize L[j].1 = k at *
      generalize L[j].2 = v at *
      have hw1 : IntKind.i64.wrap ((j : Int) + 1) = (j : Int) + 1 := by rw [IntKind.wrap_i64]; omega
      have hji : (j : Int) < (L.length : Int) := by omega
      by_cases hk : 200 < k.length
      · have hk' : (200 : Int) < (k.length : Int) := by omega
        go_wp2_with (go_at_call 13; refine (awake_any _ (HG.out.below HB1.out)).mono ?_; rintro e w4 ⟨rfl, hb4⟩)
        go_ret
        exact ⟨rfl, below_next HB1.out hb4⟩
      · have hk' : (k.length : Int) ≤ 200 := by omega
        by_cases hv : 300 < v.length
        · have hv' : (300 : Int) < (v.length : Int) := by omega
          go_wp2_with (go_at_call 13; refine (awake_any _ (HG.out.below HB1.out)).mono ?_; rintro e w4 ⟨rfl, hb4⟩)
          go_ret
          exact ⟨rfl, below_next HB1.out hb4⟩
        · have hv' : (v.length : Int) ≤ 300 := by omega
          go_wp2_with fail
          go_roundw
          case measure => simp [intOf]; omega
          case rel => exact ⟨j + 1, by omega, by go_num, by first | rfl | trivial, ⟨HT.out ⟨by omega, by omega⟩⟩⟩
    · obtain rfl : j = L.length := by omega
      have hA := HA.out
      rw [List.take_length] at hA
      obtain ⟨hmay, hjl⟩ := HFIT.out hA
      go_wp2_with fail
      refine (join_any A2 c2 L _ (HG.out.below HB1.out) HC.out hc2 (by omega) (fun x hx => by have := hA x hx; omega) (by omega)).mono ?_
      rintro e w3 ⟨rfl, hb3⟩
      have HB3 := Aside0.mk (below_next HB1.out hb3)
      have HC3 := Aside0.mk (Kd.C_below HC.out hb3)
      have hall := all_join L hmay
      have hcut := fun h : L ≠ [] => all_cut L h hmay
      have hlens := joinL_len L hmay
      have hnil : joinL L = [] → L = [] := by
        intro e
        rw [e] at hlens
        exact List.length_eq_zero_iff.1 (by simpa using hlens)
      have hfirst : ∀ h : 0 < L.length, readL (joinL L) = some (L[0].1, L[0].2, (putR L[0].1 L[0].2).length) ∧ mayR L[0].1 L[0].2 = true ∧ L[0].1.length ≤ 200 ∧ L[0].2.length ≤ 300 := by
        intro h
        have hm := hmay L[0] (List.getElem_mem _)
        refine ⟨?_, hm, hA _ (List.getElem_mem _)⟩
        have e := joinL_first L h
        have e2 : putR L[0].1 L[0].2 = putL L[0].1 L[0].2 := by unfold putR; rw [if_pos hm]
        rw [e, e2]
        exact read_complete hm _
      obtain ⟨s, hs⟩ : ∃ s, joinL L = s := ⟨_, rfl⟩
      rw [hs] at hall hcut hlens hnil hfirst hjl
      have hp : allP s = (L.map toS, 0) := by unfold allP; rw [hall]
      have HALLS := Aside0.mk hall
      have HCUT := Aside0.mk hcut
      have HNIL := Aside0.mk hnil
      have HFST := Aside0.mk hfirst
      have HSJ := Aside0.mk hs
      have hai := fun w hG => all_is s w hG (by omega)
      rw [hp] at hai
      simp only [List.length_map] at hai
      have HAI := Aside0.mk hai
      have hlens' : (L.length : Int) ≤ (s.length : Int) := by omega
      have hjl' : (s.length : Int) ≤ 10600 := by omega
      have HGT := Aside0.mk (fun k v n w hG h0 hr => get_ok s k v 0 n w hG h0 (by omega) hr)
      rw [hs]
      clear hA HA hfirst hnil hlens hs hp hai hall hcut hmay hb3
      go_wp2_with fail
      refine (HAI.out _ (HG.out.below HB3.out)).mono ?_
      rintro e w4 ⟨Am, cm, rfl, hcm, hCm, hb4⟩
      have HB4 := Aside0.mk (below_next HB3.out hb4)
      have HC4 := Aside0.mk (Kd.C_below HC3.out hb4)
      have HM4 := Aside0.mk hCm
      clear hb4 hCm
      by_cases hs0 : s = []
      · obtain rfl : L = [] := HNIL.out hs0
        subst hs0
        go_wp2_with (first
          | (go_at_call 19; refine (sameRecs_any Am cm [] A2 c2 [] true (by simp) _ HM4.out hcm HC4.out hc2 (by simp)).mono ?_; rintro e w5 ⟨rfl, hb5⟩; have HB5 := Aside0.mk (below_next HB4.out hb5))
          | (go_at_call 11; refine (err_any _ _).mono ?_; rintro e wp ⟨rfl, rfl⟩)
          | (go_at_call 13; refine (awake_any _ (HG.out.below HB5.out)).mono ?_; rintro e w7 ⟨rfl, hb7⟩))
        go_ret
        exact ⟨rfl, below_next HB5.out hb7⟩
      · have hpos : 1 ≤ s.length := by
          cases s with
          | nil => exact absurd rfl hs0
          | cons _ _ => simp
        have hlpos : 0 < L.length := by
          by_cases e : L = []
          · exact absurd (by rw [← HSJ.out, e]; rfl) hs0
          · exact List.length_pos_iff.2 e
        have hz : ((s.length : Int) == 0) = false := by simp; omega
        have hpos' : (1 : Int) ≤ (s.length : Int) := by omega
        have hcut2 := HCUT.out (List.length_pos_iff.1 hlpos)
        have hcs : allP (s.take (s.length - 1)) = ([], 4) := by unfold allP; rw [← List.dropLast_eq_take, hcut2]
        have hai2 := fun w hG => all_is (s.take (s.length - 1)) w hG (by simp; omega)
        rw [hcs] at hai2
        have HAI2 := Aside0.mk hai2
        have hsl := slice_to s ((s.length : Int) - 1) (by omega) (by omega)
        rw [show ((s.length : Int) - 1).toNat = s.length - 1 by omega] at hsl
        clear hai2 hcs hcut2 hs0
        go_wp2_with (first
          | (go_at_call 19; refine (sameRecs_any Am cm L A2 c2 L true (by simp) _ HM4.out hcm HC4.out hc2 (by omega)).mono ?_; rintro e w5 ⟨rfl, hb5⟩; have HB5 := Aside0.mk (below_next HB4.out hb5); have HC5 := Aside0.mk (Kd.C_below HC4.out hb5))
          | (go_at_call 11; refine (err_any _ _).mono ?_; rintro e wp ⟨rfl, rfl⟩))
        refine (HAI2.out _ (HG.out.below HB5.out)).mono ?_
        rintro e w6 ⟨Af, cf, rfl, hcf, hCf, hb6⟩
        have HB6 := Aside0.mk (below_next HB5.out hb6)
        have HC6 := Aside0.mk (Kd.C_below HC5.out hb6)
        simp only [List.length_nil]
        obtain ⟨w7, cap, hcv, hb7, hz7, hB7⟩ := conv_world (P := Tryd.prog) w6 9 23 5 (mkS s) Tryd.underlying9 Tryd.underlying23 Tryd.underlying5
        rw [data_mkS] at hB7
        rw [size_mkS] at hcv
        obtain ⟨q, hq⟩ : ∃ q : Nat, at_ % (s.length : Int) = q := ⟨(at_ % (s.length : Int)).toNat, by have := Int.emod_nonneg at_ (b := (s.length : Int)) (by omega); omega⟩
        have hqs : q < s.length := by have := Int.emod_lt_of_pos at_ (b := (s.length : Int)) (by omega); omega
        have hqs' : (q : Int) < (s.length : Int) := by omega
        obtain ⟨bb, hbb⟩ : ∃ bb : UInt8, (bb.toNat : Int) = by_ := ⟨UInt8.ofNat by_.toNat, by simp; omega⟩
        have hci := hB7.cell _ hqs
        have hfi := hB7.free _ hqs
        have hx : s.getD q 0 = s[q] := by simp [List.getD_eq_getElem?_getD, hqs]
        rw [hx] at hci
        have hB8 := hB7.set _ hqs (s[q] ^^^ bb)
        have hxr : (((s[q] ^^^ bb).toNat : Nat) : Int) = Go.bits .xor .u8 (s[q].toNat : Int) by_ := by
          rw [← hbb, u8_xor_nat _ _ s[q].toNat_lt bb.toNat_lt, UInt8.toNat_xor]
        rw [hxr] at hB8
        obtain ⟨t, ht⟩ : ∃ t, s.set q (s[q] ^^^ bb) = t := ⟨_, rfl⟩
        rw [ht] at hB8
        have htl : t.length = s.length := by rw [← ht, List.length_set]
        obtain ⟨N, E, hpt, hNl, hway⟩ : ∃ N E, allP t = (N.map toS, E) ∧ N.length ≤ 70000 ∧ (by_ = 0 ∨ (¬ by_ = 0 ∧ E = 4) ∨ (¬ by_ = 0 ∧ E = 0 ∧ N ≠ L)) := by
          by_cases hby : by_ = 0
          · have : bb = 0 := UInt8.toNat_inj.1 (by have : ((0 : UInt8).toNat : Int) = 0 := rfl; omega)
            rw [this, set_same] at ht
            subst ht
            exact ⟨L, 0, by unfold allP; rw [HALLS.out], by omega, .inl hby⟩
          · have hne : bb ≠ 0 := by rintro rfl; exact hby hbb.symm
            rcases back_all L s t HSJ.out (by rw [← ht]; exact set_ne s q hqs bb hne) with h | ⟨l, h, h1, h2⟩
            · exact ⟨[], 4, by unfold allP; rw [h]; rfl, by simp, .inr (.inl ⟨hby, rfl⟩)⟩
            · exact ⟨l, 0, by unfold allP; rw [h], by omega, .inr (.inr ⟨hby, rfl, h1⟩)⟩
        have hai3 := fun w hG => all_is t w hG (by omega)
        rw [hpt] at hai3
        simp only [List.length_map] at hai3
        have HAI3 := Aside0.mk hai3
        have hbk := hB8.back (P := Tryd.prog) 23 9 5 cap s.length (by omega) Tryd.underlying23 Tryd.underlying5 Tryd.underlying9
        have hb9 : Below w6.heap.size w6 (w7.setCell ⟨w6.heap.size, q, none⟩ (.int .u8 (Go.bits .xor .u8 (s[q].toNat : Int) by_))) := hb7.setCell (Nat.le_refl _) _
        have HB9 := Aside0.mk (below_next HB6.out hb9)
        have HC9 := Aside0.mk (Kd.C_below HC6.out hb9)
        obtain ⟨hr, hmay, hk0, hv0⟩ := HFST.out hlpos
        have HGT0 := Aside0.mk (fun w hG => HGT.out _ _ _ w hG hpos (by rw [List.drop_zero]; exact hr))
        have e0 : rd_T25 (L.map toS) 0 = toS L[0] := by
          unfold rd_T25
          rw [Int.toNat_zero, List.getD_eq_getElem?_getD, List.getElem?_map, List.getElem?_eq_getElem hlpos]
          rfl
        have E0 := Aside0.mk e0
        clear hb6 hCf hB7 hb7 hb9 hai3 hpt e0 hmay hr hx hB8 hxr ht htl
        generalize s[q] = x at *
        generalize L[0] = r0 at *
        obtain ⟨k0, v0⟩ := r0
        simp only at *
        obtain ⟨p0, hp0⟩ : ∃ p0, putR k0 v0 = p0 := ⟨_, rfl⟩
        rw [hp0] at HGT0
        have HPT := Aside0.mk hp0
        clear hp0
        go_wp2_with fail
        refine (HAI3.out _ (HG.out.below HB9.out)).mono ?_
        rintro e w10 ⟨An, cn, rfl, hcn, hCn, hb10⟩
        have HB10 := Aside0.mk (below_next HB9.out hb10)
        have HC10 := Aside0.mk (Kd.C_below HC9.out hb10)
        have HN10 := Aside0.mk hCn
        clear hb10 hCn hcv hci hfi hbk
        go_wp2_with fail
        refine (HGT0.out _ (HG.out.below HB10.out)).mono ?_
        rintro e w11 ⟨rfl, hb11⟩
        simp only [gotV]
        rw [Nat.zero_add]
        have HB11 := Aside0.mk (below_alloc (below_next HB10.out hb11) (.cells #[.string (mkS k0), .string (mkS v0)] 25))
        have HC11 := Aside0.mk (Kd.C_below (Kd.C_below HC10.out hb11) (below_alloc (Below.refl _ _) (.cells #[.string (mkS k0), .string (mkS v0)] 25)))
        have HN11 := Aside0.mk (Kd.C_below (Kd.C_below HN10.out hb11) (below_alloc (Below.refl _ _) (.cells #[.string (mkS k0), .string (mkS v0)] 25)))
        clear hb11
        go_wp2_with fail
        generalize w11.alloc (.cells #[.string (mkS k0), .string (mkS v0)] 25) = w12 at HB11 HC11 HN11 ⊢
        have hli : (0 : Int) < (L.length : Int) := by omega
        obtain ⟨ad, e2, _, _⟩ := at_T25 HC11.out 0 (by omega) (by omega)
        subst e2
        have KP := Aside0.mk (fun W (hb : Below w12.heap.size w12 W) => show W.cell? ad = some (.string (mkS k0)) ∧ W.cell? ⟨ad.block, ad.off + 1, none⟩ = some (.string (mkS v0)) from by
          obtain ⟨ad', e', u0, u1⟩ := at_T25 (Kd.C_below HC11.out hb) 0 (by omega) (by omega)
          obtain rfl := Option.some.inj e'
          rw [E0.out] at u0 u1
          unfold toS at u0 u1
          rw [Int.toNat_zero, Nat.zero_mul] at u0 u1
          have ea : ad.add 0 = ad := rfl
          rw [ea] at u0 u1
          exact ⟨u0, u1⟩)
        have hb12 := Below.refl w12.heap.size w12
        have HQ := Aside0.mk hb12
        rcases hway with rfl | ⟨hby, rfl⟩ | ⟨hby, rfl, hne⟩
        · obtain ⟨u0, u1⟩ := KP.out _ hb12
          clear hb12
          go_wp2_with (first
            | (go_at_call 11; refine (err_any _ _).mono ?_; rintro e wp ⟨rfl, rfl⟩)
            | (go_at_call 8; refine (putR_is k0 v0 p0 HPT.out _ (HG.out.below HB11.out) (by omega)).mono ?_; rintro e w14 ⟨rfl, hb14⟩; have HB14 := Aside0.mk (below_next HB11.out hb14))
            | (go_at_call 13; refine (awake_any _ (HG.out.below HB14.out)).mono ?_; rintro e w15 ⟨rfl, hb15⟩))
          go_ret
          exact ⟨rfl, below_next HB14.out hb15⟩
        · obtain ⟨u0, u1⟩ := KP.out _ hb12
          have hby' : (by_ == 0) = false := by simpa using hby
          clear hb12 hby
          go_wp2_with (first
            | (go_at_call 11; refine (err_any _ _).mono ?_; rintro e wp ⟨rfl, rfl⟩)
            | (go_at_call 8; refine (putR_is k0 v0 p0 HPT.out _ (HG.out.below HB11.out) (by omega)).mono ?_; rintro e w14 ⟨rfl, hb14⟩; have HB14 := Aside0.mk (below_next HB11.out hb14))
            | (go_at_call 13; refine (awake_any _ (HG.out.below HB14.out)).mono ?_; rintro e w15 ⟨rfl, hb15⟩))
          go_ret
          exact ⟨rfl, below_next HB14.out hb15⟩
        · have hby' : (by_ == 0) = false := by simpa using hby
          clear hb12 hby
          have HNE := Aside0.mk hne
          clear hne
          go_wp2_with (first
            | (go_at_call 11; refine (err_any _ _).mono ?_; rintro e wp ⟨rfl, rfl⟩)
            | (go_at_call 19; refine (sameRecs_any An cn N (some ad) c2 L false (by simpa using HNE.out) _ HN11.out hcn HC11.out hc2 hNl).mono ?_; rintro e w13 ⟨rfl, hb13⟩; have HB13 := Aside0.mk (below_next HB11.out hb13); obtain ⟨u0, u1⟩ := KP.out _ hb13)
            | (go_at_call 8; refine (putR_is k0 v0 p0 HPT.out _ (HG.out.below HB13.out) (by omega)).mono ?_; rintro e w14 ⟨rfl, hb14⟩; have HB14 := Aside0.mk (below_next HB13.out hb14))
            | (go_at_call 13; refine (awake_any _ (HG.out.below HB14.out)).mono ?_; rintro e w15 ⟨rfl, hb15⟩))
          go_ret
          exact ⟨rfl, below_next HB14.out hb15⟩
/-- As the row hands it over. -/
theorem recBack_walk (A : Option Addr) (c : Nat) (ks : List ByteArray) (A1 : Option Addr) (c1 : Nat) (vs : List ByteArray) (at_ by_ : Int) (w : World) (hG : Good w) (hK : Kd.C Kd.string w A ks.length ks) (_ : ks.length ≤ c) (hb : ∀ s ∈ ks, s.size ≤ 140737488351232) (hV : Kd.C Kd.string w A1 vs.length vs) (_ : vs.length ≤ c1) (hv : ∀ s ∈ vs, s.size ≤ 140737488351232) (h0 : 0 ≤ at_ ∧ at_ ≤ 65535) (h1 : 0 ≤ by_ ∧ by_ ≤ 255) :
    Calls Tryd.prog 7 #[.slice A ks.length c, .slice A1 vs.length c1, .int .u16 at_, .int .u8 by_] w fun e w' => e = .returned (.bool true) ∧ Below w.heap.size w w' :=
  recBack_main A c ks A1 c1 vs at_ by_ w hG hK hV hb hv h0 h1
end Go.Proofs.YtldimdlobgnnpaaDoor
