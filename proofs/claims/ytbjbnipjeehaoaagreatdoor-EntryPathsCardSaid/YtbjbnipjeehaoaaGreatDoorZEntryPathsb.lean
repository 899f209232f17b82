/- Lemmas for EntryPaths: head.May. head.Put. Entries of which little is said: as data, their headers; pad.Put; entry.Head. A region that draws its order, walked by an invariant: each operation once, whatever the order. entry.Recs where no record is made. (Printed by tools/genrecs.py.) Paths: the plain law. entry.name, entry.Path. meta.May, entry.May where a file may be. meta.May, mayTarget, mayDevice of a file that may be. mayRecs and entry.May of a file that may be and makes no record. (Printed by tools/genfile.py.) -/
import Derived.Test.YtbjbnipjeehaoaaGreatDoorZEntryPathsa
import Derived.Laws.IdiomRangeMap
import Derived.Deep.DrawnRows
set_option linter.unusedVariables false
set_option linter.unusedSimpArgs false
namespace Go.Proofs.YtbjbnipjeehaoaaGreatDoor.H
open Go.RowKit Go.Proofs.YtbjbnipjeehaoaaGreatDoorW.PrintWords
theorem contains_zero (l : List UInt8) (b : Bool) (h : l.contains 0 = b) (w : World) :
    Calls Tryz.prog 76 #[.string (mkS l), .string ⟨#[0]⟩] w fun e w' => e = .returned (.bool b) ∧ w' = w := by
  have h1 := Tryz.strings_Contains_one (mkS l) 0 w
  rw [data_mkS, indexByte_contains, h] at h1
  exact h1
theorem Field_is (n : Int) (wd : Nat) (o : Option (List UInt8)) (h : fieldT n wd = o) (w : World) (hw : wd = 8 ∨ wd = 12) (hr : -9223372036854775808 ≤ n ∧ n ≤ 9223372036854775807) :
    Calls Tryz.prog 197 #[.int .i64 n, .int .i64 (wd : Int)] w fun e w' => e = .returned (saidV o) ∧ Below w.heap.size w w' := by
  subst h; exact Field_any n wd w hw hr.1 hr.2
/-- What May answers. -/
def MayDone (h : Hd) (w : World) (e : Ending) (w' : World) : Prop := e = .returned (.bool (mayH h)) ∧ Below w.heap.size w w'
set_option maxHeartbeats 4000000 in
set_option maxRecDepth 100000 in
theorem may_done (h : Hd) (w : World) (hf : Fits h) :
    Calls Tryz.prog 138 #[.agg (hdCells h)] w (MayDone h w) := by
  have HENT := Aside0.mk (entry_fits hf)
  have HI := Aside0.mk hf.ints
  have HT := Aside0.mk (fun W => texts_any h W hf)
  have HB0 := Aside0.mk (below_alloc (Below.refl w.heap.size w) (.cells (hdCells h) 41))
  have g0 := heap_alloc_new w (.cells (hdCells h) 41)
  have HNUM := Aside0.mk (fun (n : Int) (hm : n ∈ numsL h) (hn : numOk n = false) => mayH_no_num hm hn)
  have HTEXT := Aside0.mk (fun (ht : textsOk h = false) => mayH_no_text ht)
  have HREST := Aside0.mk (fun (ht : textsOk h = true) (hn : ∀ n ∈ numsL h, numOk n = true) => mayH_rest ht hn)
  have HALL := Aside0.mk (ents_all h)
  clear hf
  obtain ⟨ents, hents⟩ : ∃ x, x = textEntries h := ⟨_, rfl⟩
  obtain ⟨tok, htok⟩ : ∃ x, x = textsOk h := ⟨_, rfl⟩
  obtain ⟨res, hres⟩ : ∃ x, x = mayH h := ⟨_, rfl⟩
  rw [← hents] at HENT HT HALL
  rw [← htok] at HALL HTEXT HREST
  rw [← hres] at HNUM HTEXT HREST
  have HD : Aside0 (∀ e w', e = .returned (.bool res) → Below w.heap.size w w' → MayDone h w e w') := ⟨fun e w' h1 h2 => ⟨hres ▸ h1, h2⟩⟩
  clear hents htok hres
  obtain ⟨R, hR⟩ : ∃ R, R = MayDone h w := ⟨_, rfl⟩
  rw [← hR] at HD ⊢
  clear hR
  obtain ⟨name, mode, uid, gid, size, mtime, typ, link, uname, gname, major, minor, pre⟩ := h
  unfold hdCells at HT HB0 g0 ⊢
  unfold numsL at HNUM HREST
  simp only at HT HB0 g0 HNUM HREST ⊢
  have hI := HI.out
  obtain ⟨i1, i2, i3, i4, i5, i6, i7⟩ := hI
  simp only at i1 i2 i3 i4 i5 i6 i7
  have I1 := Aside0.mk i1
  have I2 := Aside0.mk i2
  have I3 := Aside0.mk i3
  have I4 := Aside0.mk i4
  have I5 := Aside0.mk i5
  have I6 := Aside0.mk i6
  have I7 := Aside0.mk i7
  clear i1 i2 i3 i4 i5 i6 i7 HI
  go_enter Tryz.func138, Tryz.ntmps138
  go_wp2_with (go_at_call 196; refine (HT.out _).mono ?_; rintro e w1 ⟨g, L, rfl, hL, hm, hg, hb1⟩; obtain ⟨es, clock, hbm, hes, hst⟩ := hL.ex; have hrg := run_range_map (P := Tryz.prog) w1 207 9 3 g es clock Tryz.underlying207 hbm)
  have HB1 := Aside0.mk (below_next HB0.out hb1)
  have g1 := Aside0.mk ((hb1.block _ (blk_lt g0)).trans g0)
  have HALLL := Aside0.mk (HALL.out L hm)
  have HES : Aside0 (∀ x ∈ es.toList, ∃ t ∈ L, x.key = .string (mkS t.1) ∧ x.val = .int .i64 t.2) := ⟨fun x hx => by
    have : (x.key, x.val) ∈ es.toList.map (fun x => (x.key, x.val)) := List.mem_map.2 ⟨x, hx, rfl⟩
    rw [hes] at this
    obtain ⟨t, ht, he⟩ := List.mem_map.1 this
    exact ⟨t, ht, (congrArg Prod.fst he).symm, (congrArg Prod.snd he).symm⟩⟩
  have HES2 : Aside0 (∀ t ∈ L, ∃ x ∈ es.toList, x.key = .string (mkS t.1) ∧ x.val = .int .i64 t.2) := ⟨fun t ht => by
    have : (Value.string (mkS t.1), Value.int .i64 t.2) ∈ L.map (fun t => (Value.string (mkS t.1), Value.int .i64 t.2)) := List.mem_map.2 ⟨t, ht, rfl⟩
    rw [← hes] at this
    obtain ⟨x, hx, he⟩ := List.mem_map.1 this
    exact ⟨x, hx, congrArg Prod.fst he, congrArg Prod.snd he⟩⟩
  have HENL : Aside0 (∀ t ∈ L, t.1.length ≤ 140737488351233 ∧ 0 ≤ t.2 ∧ t.2 ≤ 155) := ⟨fun t ht => HENT.out t ((hm t).1 ht)⟩
  clear hb1 g0 HT HB0 hg hL hm hes HALL HENT
  go_loopw [] (fun w' => ∃ (w2 : World) (seen : Array Nat), w2.Alike w1 ∧ Aside0 (w2.tape = w1.tape) ∧ w' = w2.alloc (.mapIter (some g) clock seen clock) ∧ Aside0 (∀ x ∈ es.toList, seen.contains x.born = true → ∀ t ∈ L, x.key = .string (mkS t.1) → x.val = .int .i64 t.2 → entOk t = true)) (fun w' => (leftOf es (w'.iterSeen w1.heap.size)).size)
  case atStart => exact ⟨w1, #[], ⟨rfl, rfl, rfl⟩, ⟨rfl⟩, rfl, ⟨fun x _ h => by simp at h⟩⟩
  case round =>
    obtain ⟨w2, seen, hal, ht, rfl, hno⟩ := hrel
    have hsz : w2.heap.size = w1.heap.size := by rw [hal.1]
    have hb2 : w2.heap[g]? = some (.map es clock) := by rw [hal.1]; exact hbm
    have law := run_next_map (P := Tryz.prog) w2 0 g clock clock seen es clock hb2 hst.1 (Nat.le_refl _)
    rw [hsz] at law
    rcases law with ⟨h0, hrun⟩ | ⟨e, he, w3, hal3, hrun⟩
    · have hnx : ∀ ty, (Instr.next (.pointer (some ⟨w1.heap.size, 0, none⟩)) false ty).run Tryz.prog (w2.alloc (.mapIter (some g) clock seen clock)) = _ := fun _ => hrun
      have g2' : w2.heap[w.heap.size]? = w1.heap[w.heap.size]? := by rw [hal.1]
      have g2 := Aside0.mk (g2'.trans g1.out)
      clear g2'
      have c1 : w2.cell? ⟨w.heap.size, 1, none⟩ = some (.int .i64 mode) := blk_cell g2.out 1
      have c2 : w2.cell? ⟨w.heap.size, 2, none⟩ = some (.int .i64 uid) := blk_cell g2.out 2
      have c3 : w2.cell? ⟨w.heap.size, 3, none⟩ = some (.int .i64 gid) := blk_cell g2.out 3
      have c10 : w2.cell? ⟨w.heap.size, 10, none⟩ = some (.int .i64 major) := blk_cell g2.out 10
      have c11 : w2.cell? ⟨w.heap.size, 11, none⟩ = some (.int .i64 minor) := blk_cell g2.out 11
      have l2 := blk_lt g2.out
      have HTOK : Aside0 (tok = true) := ⟨by
        rw [← HALLL.out, List.all_eq_true]
        intro t ht
        obtain ⟨x, hx, k1, k2⟩ := HES2.out t ht
        exact hno.out x hx (all_seen es seen h0 x hx) t ht k1 k2⟩
      have HB2 : Aside0 (Below w.heap.size w w2) := ⟨HB1.out.trans ⟨hal.2.1, ht.out, hal.2.2, by omega, fun k _ => by rw [hal.1]⟩⟩
      clear hsz hrun h0 hno ht HES HES2 HENL HALLL hal hst hbm hb2 g1 HB1
      go_wp2_with fail
      have N0 := heap_alloc_new (w2.alloc (.mapIter (some g) clock seen clock)) (.cells #[.int .i64 mode, .int .i64 uid, .int .i64 gid, .int .i64 major, .int .i64 minor] 3)
      rw [show (w2.alloc (.mapIter (some g) clock seen clock)).heap.size = w2.heap.size + 1 by simp] at N0
      have G0 := blk_alloc (blk_alloc g2.out (.mapIter (some g) clock seen clock)) (.cells #[.int .i64 mode, .int .i64 uid, .int .i64 gid, .int .i64 major, .int .i64 minor] 3)
      have B0 := below_alloc (below_alloc HB2.out (.mapIter (some g) clock seen clock)) (.cells #[.int .i64 mode, .int .i64 uid, .int .i64 gid, .int .i64 major, .int .i64 minor] 3)
      clear hnx g2 c1 c2 c3 c10 c11 HB2
      generalize (w2.alloc (.mapIter (some g) clock seen clock)).alloc (.cells #[.int .i64 mode, .int .i64 uid, .int .i64 gid, .int .i64 major, .int .i64 minor] 3) = W0 at N0 G0 B0 ⊢
      generalize w2.heap.size + 1 = k at N0 ⊢
      clear l2
      have HBW := Aside0.mk B0
      have HGW := Aside0.mk G0
      have HC : Aside0 (∀ i : Nat, i < 5 → ∃ n, n ∈ [mode, uid, gid, major, minor] ∧ [mode, uid, gid, major, minor][i]? = some n ∧ W0.cell? ⟨k, i, none⟩ = some (.int .i64 n) ∧ (-9223372036854775808 ≤ n ∧ n ≤ 9223372036854775807)) := ⟨by
        intro i hi
        have : i = 0 ∨ i = 1 ∨ i = 2 ∨ i = 3 ∨ i = 4 := by omega
        rcases this with rfl | rfl | rfl | rfl | rfl
        · exact ⟨mode, by simp, rfl, blk_cell N0 0, I1.out⟩
        · exact ⟨uid, by simp, rfl, blk_cell N0 1, I2.out⟩
        · exact ⟨gid, by simp, rfl, blk_cell N0 2, I3.out⟩
        · exact ⟨major, by simp, rfl, blk_cell N0 3, I6.out⟩
        · exact ⟨minor, by simp, rfl, blk_cell N0 4, I7.out⟩⟩
      have hkl := Aside0.mk (blk_lt N0)
      clear N0 G0 B0
      go_loopw [42] (fun v wr => ∃ i : Nat, i ≤ 5 ∧ v = .int .i64 (i : Int) ∧ Aside0 (∀ j : Nat, j < i → ∀ n, [mode, uid, gid, major, minor][j]? = some n → numOk n = true) ∧ Aside0 (Below W0.heap.size W0 wr)) (fun v _ => 5 - (intOf v).toNat)
      case atStart => exact ⟨0, by omega, rfl, ⟨fun j hj => by omega⟩, ⟨Below.refl _ _⟩⟩
      case round =>
        obtain ⟨i, hi5, rfl, hok, HBR⟩ := hrel
        by_cases hlt : i < 5
        · obtain ⟨n, hmem, hget, hc0, hrn⟩ := HC.out i hlt
          have hcell : wr.cell? ⟨k, i, none⟩ = some (.int .i64 n) := by
            have := HBR.out.block _ hkl.out
            simp only [World.cell?, this] at hc0 ⊢
            exact hc0
          clear hc0
          have q1 : (i : Int) < 5 := by omega
          cases hf : fieldT n 8 with
          | none =>
            have HF := Aside0.mk hf
            have HRES := Aside0.mk (HNUM.out n hmem (by unfold numOk; rw [hf]; rfl))
            clear hf
            go_wp2_with (go_at_call 197; refine (Field_is n 8 none HF.out _ (.inl rfl) hrn).mono ?_; rintro e w5 ⟨rfl, hb5⟩; simp only [saidV])
            exact HD.out _ _ (by rw [HRES.out]; rfl) (HBW.out.trans ((below_next HBR.out hb5).mono HBW.out.size))
          | some l =>
            have HF := Aside0.mk hf
            by_cases hneg : n < 0
            · have HRES := Aside0.mk (HNUM.out n hmem (by unfold numOk; rw [hf]; simp; omega))
              clear hf
              go_wp2_with (go_at_call 197; refine (Field_is n 8 (some l) HF.out _ (.inl rfl) hrn).mono ?_; rintro e w5 ⟨rfl, hb5⟩; simp only [saidV])
              exact HD.out _ _ (by rw [HRES.out]; rfl) (HBW.out.trans ((below_next HBR.out hb5).mono HBW.out.size))
            · have HOK := Aside0.mk (show numOk n = true by unfold numOk; rw [hf]; simp; omega)
              clear hf
              go_wp2_with (go_at_call 197; refine (Field_is n 8 (some l) HF.out _ (.inl rfl) hrn).mono ?_; rintro e w5 ⟨rfl, hb5⟩; simp only [saidV])
              go_roundw
              case measure => simp [intOf]; omega
              case rel => exact ⟨i + 1, by omega, by go_num, ⟨fun j hj m hm => by
                  rcases Nat.lt_succ_iff_lt_or_eq.1 hj with h | rfl
                  · exact hok.out j h m hm
                  · rw [hget] at hm; injection hm with hm; rw [← hm]; exact HOK.out⟩, ⟨below_next HBR.out hb5⟩⟩
        · have q1 : ¬ (i : Int) < 5 := by omega
          obtain rfl : i = 5 := by omega
          have HRR := Aside0.mk (HREST.out HTOK.out (fun n hn => by
            obtain ⟨j, hj⟩ := List.mem_iff_getElem?.1 hn
            exact hok.out j (by have := (List.getElem?_eq_some_iff.1 hj).1; simpa using this) n hj))
          have G4 := Aside0.mk ((HBR.out.block _ (blk_lt HGW.out)).trans HGW.out)
          have c4 : wr.cell? ⟨w.heap.size, 4, none⟩ = some (.int .i64 size) := blk_cell G4.out 4
          have c5 : wr.cell? ⟨w.heap.size, 5, none⟩ = some (.int .i64 mtime) := blk_cell G4.out 5
          have l4 := blk_lt G4.out
          clear hok HC HREST HNUM
          have b5 := Aside0.mk (HBW.out.trans (HBR.out.mono HBW.out.size))
          obtain ⟨o1, hf1⟩ : ∃ o, fieldT size 12 = o := ⟨_, rfl⟩
          obtain ⟨o2, hf2⟩ : ∃ o, fieldT mtime 12 = o := ⟨_, rfl⟩
          simp only [hf1, hf2] at HRR
          have HF1 := Aside0.mk hf1
          have HF2 := Aside0.mk hf2
          clear hf1 hf2
          rcases o1 with _ | s1 <;> rcases o2 with _ | s2
          all_goals
            simp only [Option.isSome_none, Option.isSome_some, Bool.and_false, Bool.false_and, Bool.true_and, Bool.and_true] at HRR
            go_wp2_with fail
            refine (Field_is size 12 _ HF1.out _ (.inr rfl) I4.out).mono ?_
            rintro e w5 ⟨rfl, hb5⟩
            simp only [saidV]
            have G5 := Aside0.mk ((hb5.block _ (blk_lt G4.out)).trans G4.out)
            have d4 : w5.cell? ⟨w.heap.size, 4, none⟩ = some (.int .i64 size) := blk_cell G5.out 4
            have d5 : w5.cell? ⟨w.heap.size, 5, none⟩ = some (.int .i64 mtime) := blk_cell G5.out 5
            have l5 := blk_lt G5.out
            have b6 := Aside0.mk (below_next b5.out hb5)
            clear hb5
            go_wp2_with fail
            refine (Field_is mtime 12 _ HF2.out _ (.inr rfl) I5.out).mono ?_
            rintro e w6 ⟨rfl, hb6⟩
            simp only [saidV]
            have G6 := Aside0.mk ((hb6.block _ (blk_lt G5.out)).trans G5.out)
            have e4 : w6.cell? ⟨w.heap.size, 4, none⟩ = some (.int .i64 size) := blk_cell G6.out 4
            have l6 := blk_lt G6.out
            have b7 := Aside0.mk (below_next b6.out hb6)
            clear hb6
            go_wp2
            exact HD.out _ _ (by rw [HRR.out]; rfl) b7.out
    · obtain ⟨t, htL, hk, hv⟩ := HES.out e (mem_left he).1
      have HTL := Aside0.mk htL
      have hfit := HENL.out t htL
      rw [hk, hv] at hrun
      have hnx : ∀ ty, (Instr.next (.pointer (some ⟨w1.heap.size, 0, none⟩)) false ty).run Tryz.prog (w2.alloc (.mapIter (some g) clock seen clock)) = _ := fun _ => hrun
      have hi0 := heap_alloc_new w2 (.mapIter (some g) clock seen clock)
      rw [hsz] at hi0
      have htp0 := next_tape hi0 (blk_alloc hb2 (.mapIter (some g) clock seen clock)) hrun
      have htp : w3.tape = w2.tape := htp0
      clear hi0 htp0
      have hsz2 : w3.heap.size = w1.heap.size := by rw [hal3.1, hal.1]
      have hb3 : w3.heap[g]? = some (.map es clock) := by rw [hal3.1]; exact hb2
      have hen := run_entry_map (P := Tryz.prog) w3 g clock seen es clock e hb3 (mem_left he).1 hst.2.1
      rw [hsz2, hk, hv] at hen
      have hal4 : w3.Alike w1 := ⟨hal3.1.trans hal.1, hal3.2.1.trans hal.2.1, hal3.2.2.trans hal.2.2⟩
      have HT3 := Aside0.mk (htp.trans ht.out)
      have HB3 : Aside0 (Below w.heap.size w w3) := ⟨HB1.out.trans ⟨hal4.2.1, HT3.out, hal4.2.2, by omega, fun k _ => by rw [hal4.1]⟩⟩
      have HAL4 := Aside0.mk hal4
      have HE := Aside0.mk he
      have HNO := Aside0.mk hno.out
      have HK := Aside0.mk hk
      have HV := Aside0.mk hv
      have HSZ2 := Aside0.mk hsz2
      have HSZ := Aside0.mk hsz
      have HST := Aside0.mk hst
      have HBAD : Aside0 (entOk t = false → res = false) := ⟨fun hx => HTEXT.out (by
        rw [← HALLL.out]
        exact List.all_eq_false.2 ⟨t, HTL.out, by rw [hx]; decide⟩)⟩
      have HEO := Aside0.mk (entOk_not t)
      clear hal4 htp hb3 he hk hv hal3 hal ht htL hst hno
      obtain ⟨s, mx⟩ := t
      simp only at hfit hrun hnx hen HEO
      obtain ⟨f1, f2, f3⟩ := hfit
      have q0 : IntKind.i64.wrap ((s.length : Int) - 1) = (s.length : Int) - 1 := by simp only [IntKind.wrap_i64]; omega
      by_cases hgt : mx < (s.length : Int) - 1
      · have HR : Aside0 (res = false) := ⟨HBAD.out (by rw [HEO.out, decide_eq_true hgt]; rfl)⟩
        go_wp2_with fail
        exact HD.out _ _ (by rw [HR.out]) (below_alloc HB3.out _)
      · obtain ⟨b, hb⟩ : ∃ b, s.contains 0 = b := ⟨_, rfl⟩
        have HC := Aside0.mk hb
        rw [hb, decide_eq_false hgt, Bool.false_or] at HEO
        clear hb
        cases b with
        | true =>
          have HR : Aside0 (res = false) := ⟨HBAD.out HEO.out⟩
          go_wp2_with (go_at_call 76; refine (contains_zero s true HC.out _).mono ?_; rintro e w5 ⟨rfl, rfl⟩)
          exact HD.out _ _ (by rw [HR.out]; rfl) (below_alloc HB3.out _)
        | false =>
          go_wp2_with (go_at_call 76; refine (contains_zero s false HC.out _).mono ?_; rintro e w5 ⟨rfl, rfl⟩)
          go_roundw
          case rel =>
            refine ⟨w3, seen.push e.born, HAL4.out, HT3, rfl, ⟨fun x hx hc t' ht' k1 k2 => ?_⟩⟩
            rw [contains_push] at hc
            rcases Bool.or_eq_true _ _ ▸ hc with h1 | h1
            · exact HNO.out x hx h1 t' ht' k1 k2
            · have hx' : x = e := born_inj HST.out.2.1 hx (mem_left HE.out).1 (beq_iff_eq.1 h1)
              subst hx'
              rw [HK.out] at k1
              rw [HV.out] at k2
              have e1 : s = t'.1 := mkS_inj.1 (Value.string.inj k1)
              have e2 : mx = t'.2 := (Value.int.inj k2).2
              have e3 : t' = (s, mx) := Prod.ext e1.symm e2.symm
              rw [e3, HEO.out]
              rfl
          case measure =>
            rw [← HSZ2.out, World.iterSeen_alloc, HSZ2.out, ← HSZ.out, World.iterSeen_alloc]
            exact left_shrinks es seen e HE.out
theorem may_any (h : Hd) (w : World) (hG : Good w) (hf : Fits h) : Calls Tryz.prog 138 #[.agg (hdCells h)] w fun e w' => e = .returned (.bool (mayH h)) ∧ Below w.heap.size w w' := may_done h w hf
end Go.Proofs.YtbjbnipjeehaoaaGreatDoor.H
section
namespace Go.Proofs.YtbjbnipjeehaoaaGreatDoor.H
open Go.RowKit Go.Proofs.YtbjbnipjeehaoaaGreatDoorW.PrintWords
/-- A slice of one byte as a string. -/
theorem one_byte (W : World) (k : Nat) (b : UInt8) (h : W.heap[k]? = some (.cells #[.int .u8 (b.toNat : Int)] 5)) :
    (convert 22 9 (.slice (some ⟨k, 0, none⟩) 1 1)).run Tryz.prog W = .ok (.string (mkS [b])) W := by
  rw [run_convert_bytes_arg (P := Tryz.prog) _ 22 5 Tryz.underlying22 Tryz.underlying5 k 0 1 1 [(b.toNat : Int)] rfl (fun i hi => ?_) 9 Tryz.underlying9]
  · unfold strOfNums mkS; simp
  · have : i = 0 := by omega
    subst this
    exact blk_cell h 0
attribute [local go_sem ↓] Go.wp_at_zero Go.wp_at_succ
/-- Set aside for the second region, and for the third. -/
structure Put2 (p : Prop) : Prop where
  out : p
structure Put3 (p : Prop) : Prop where
  out : p
structure Put4 (p : Prop) : Prop where
  out : p
set_option maxHeartbeats 2000000 in
set_option maxRecDepth 100000 in
theorem put_not (h : Hd) (w : World) (hG : Good w) (hf : Fits h) (hm : mayH h = false) :
    Calls Tryz.prog 70 #[.agg (hdCells h)] w fun e w' => e = .returned (.string ⟨#[]⟩) ∧ Below w.heap.size w w' := by
  have HM := Aside0.mk (fun W hGW => may_any h W hGW hf)
  rw [hm] at HM
  have HG := Aside0.mk hG
  clear hG hf hm
  have HB0 := Aside0.mk (below_alloc (Below.refl w.heap.size w) (.cells (hdCells h) 41))
  obtain ⟨name, mode, uid, gid, size, mtime, typ, link, uname, gname, major, minor, pre⟩ := h
  unfold hdCells at HM HB0 ⊢
  simp only at HM HB0 ⊢
  go_enter Tryz.func70, Tryz.ntmps70
  go_wp2_with (go_at_call 138; refine (HM.out _ (HG.out.below HB0.out)).mono ?_; rintro e w1 ⟨rfl, hb1⟩)
  go_ret
  exact ⟨rfl, below_next HB0.out hb1⟩
set_option maxHeartbeats 40000000 in
set_option maxRecDepth 100000 in
theorem put_ok (h : Hd) (w : World) (hG : Good w) (hf : Fits h) (hm : mayH h = true) :
    Calls Tryz.prog 70 #[.agg (hdCells h)] w fun e w' => e = .returned (.string (mkS (blockT h))) ∧ Below w.heap.size w w' := by
  have HM := Aside0.mk (fun W hGW => may_any h W hGW hf)
  rw [hm] at HM
  have m := (mayH_iff h).1 hm
  have hi := hf.ints
  have HG := Aside0.mk hG
  have HB0 := Aside0.mk (below_alloc (Below.refl w.heap.size w) (.cells (hdCells h) 41))
  have g0 := heap_alloc_new w (.cells (hdCells h) 41)
  clear hG hf hm
  obtain ⟨name, mode, uid, gid, size, mtime, typ, link, uname, gname, major, minor, pre⟩ := h
  unfold hdCells at HM HB0 g0 ⊢
  simp only at HM HB0 g0 ⊢
  go_enter Tryz.func70, Tryz.ntmps70
  go_wp2_with (go_at_call 138; refine (HM.out _ (HG.out.below HB0.out)).mono ?_; rintro e w1 ⟨rfl, hb1⟩; have g1 := (hb1.block _ (blk_lt g0)).trans g0)
  obtain ⟨i1, i2, i3, i4, i5, i6, i7⟩ := hi
  simp only at i1 i2 i3 i4 i5 i6 i7
  have hlA := blockA_length m
  have hlB := blockB_length m
  obtain ⟨m1, m2, m3, m4, m5, m6, m7, m8, m9, m10, m11, m12⟩ := m
  simp only at m1 m2 m3 m4 m5 m6 m7 m8 m9 m10 m11 m12
  have hn := (textOk_le m1).1
  have hk := (textOk_le m2).1
  have hu := (textOk_le m3).1
  have hgn := (textOk_le m4).1
  have hpr := (textOk_le m5).1
  have q0 := fill_length name 100 hn
  have q1 := fld_length m6.1 (by decide)
  have q2 := fld_length m7.1 (by decide)
  have q3 := fld_length m8.1 (by decide)
  have q4 := fld_length m11.1 (by decide)
  have q5 := fld_length m12 (by decide)
  have q6 := fill_length link 100 hk
  have q7 := fill_length uname 32 hu
  have q8 := fill_length gname 32 hgn
  have q9 := fld_length m9.1 (by decide)
  have q10 := fld_length m10.1 (by decide)
  have q11 := fill_length pre 155 hpr
  have HT1 := Aside0.mk (fun W => text_any name 100 W hn (by omega))
  have HT2 := Aside0.mk (fun W => text_any link 100 W hk (by omega))
  have HT3 := Aside0.mk (fun W => text_any uname 32 W hu (by omega))
  have HT4 := Aside0.mk (fun W => text_any gname 32 W hgn (by omega))
  have HT5 := Aside0.mk (fun W => text_any pre 155 W hpr (by omega))
  have HF1 := Aside0.mk (fun W => fieldH_any mode 8 W (.inl rfl) i1.1 i1.2)
  have HF2 := Aside0.mk (fun W => fieldH_any uid 8 W (.inl rfl) i2.1 i2.2)
  have HF3 := Aside0.mk (fun W => fieldH_any gid 8 W (.inl rfl) i3.1 i3.2)
  have HF4 := Aside0.mk (fun W => fieldH_any size 12 W (.inr rfl) i4.1 i4.2)
  have HF5 := Aside0.mk (fun W => fieldH_any mtime 12 W (.inr rfl) i5.1 i5.2)
  have HF6 := Aside0.mk (fun W => fieldH_any major 8 W (.inl rfl) i6.1 i6.2)
  have HF7 := Aside0.mk (fun W => fieldH_any minor 8 W (.inl rfl) i7.1 i7.2)
  have eA : blockA ⟨name, mode, uid, gid, size, mtime, typ, link, uname, gname, major, minor, pre⟩ = ((((fill name 100 ++ fld mode 8) ++ fld uid 8) ++ fld gid 8) ++ fld size 12) ++ fld mtime 12 := rfl
  obtain ⟨A0, hA0⟩ : ∃ A0, fill name 100 = A0 := ⟨_, rfl⟩
  obtain ⟨F1, hF1⟩ : ∃ F1, fld mode 8 = F1 := ⟨_, rfl⟩
  obtain ⟨F2, hF2⟩ : ∃ F2, fld uid 8 = F2 := ⟨_, rfl⟩
  obtain ⟨F3, hF3⟩ : ∃ F3, fld gid 8 = F3 := ⟨_, rfl⟩
  obtain ⟨F4, hF4⟩ : ∃ F4, fld size 12 = F4 := ⟨_, rfl⟩
  obtain ⟨F5, hF5⟩ : ∃ F5, fld mtime 12 = F5 := ⟨_, rfl⟩
  rw [hA0, hF1, hF2, hF3, hF4, hF5] at eA
  rw [hA0] at q0 HT1
  rw [hF1] at q1 HF1
  rw [hF2] at q2 HF2
  rw [hF3] at q3 HF3
  rw [hF4] at q4 HF4
  rw [hF5] at q5 HF5
  obtain ⟨c1, hc1⟩ : ∃ c1, A0 ++ F1 = c1 := ⟨_, rfl⟩
  obtain ⟨c2, hc2⟩ : ∃ c2, c1 ++ F2 = c2 := ⟨_, rfl⟩
  obtain ⟨c3, hc3⟩ : ∃ c3, c2 ++ F3 = c3 := ⟨_, rfl⟩
  obtain ⟨c4, hc4⟩ : ∃ c4, c3 ++ F4 = c4 := ⟨_, rfl⟩
  obtain ⟨c5, hc5⟩ : ∃ c5, c4 ++ F5 = c5 := ⟨_, rfl⟩
  rw [hc1, hc2, hc3, hc4, hc5] at eA
  rw [eA] at hlA
  have l1 : c1.length = 108 := by rw [← hc1, List.length_append, q0, q1]
  have l2 : c2.length = 116 := by rw [← hc2, List.length_append, l1, q2]
  have l3 : c3.length = 124 := by rw [← hc3, List.length_append, l2, q3]
  have l4 : c4.length = 136 := by rw [← hc4, List.length_append, l3, q4]
  have b1 := fun W => str_add (P := Tryz.prog) (s := mkS A0) (t := mkS F1) rfl rfl hc1 (by omega) W
  have b2 := fun W => str_add (P := Tryz.prog) (s := mkS c1) (t := mkS F2) rfl rfl hc2 (by omega) W
  have b3 := fun W => str_add (P := Tryz.prog) (s := mkS c2) (t := mkS F3) rfl rfl hc3 (by omega) W
  have b4 := fun W => str_add (P := Tryz.prog) (s := mkS c3) (t := mkS F4) rfl rfl hc4 (by omega) W
  have b5 := fun W => str_add (P := Tryz.prog) (s := mkS c4) (t := mkS F5) rfl rfl hc5 (by omega) W
  have EA := Aside0.mk eA
  have eB : blockB ⟨name, mode, uid, gid, size, mtime, typ, link, uname, gname, major, minor, pre⟩ = [typ] ++ fill link 100 ++ magicL ++ fill uname 32 ++ fill gname 32 ++ fld major 8 ++ fld minor 8 ++ fill pre 155 ++ List.replicate 12 0 := rfl
  obtain ⟨L1, hL1⟩ : ∃ L1, fill link 100 = L1 := ⟨_, rfl⟩
  obtain ⟨U1, hU1⟩ : ∃ U1, fill uname 32 = U1 := ⟨_, rfl⟩
  obtain ⟨G1, hG1⟩ : ∃ G1, fill gname 32 = G1 := ⟨_, rfl⟩
  obtain ⟨M1, hM1⟩ : ∃ M1, fld major 8 = M1 := ⟨_, rfl⟩
  obtain ⟨N1, hN1⟩ : ∃ N1, fld minor 8 = N1 := ⟨_, rfl⟩
  obtain ⟨P1, hP1⟩ : ∃ P1, fill pre 155 = P1 := ⟨_, rfl⟩
  have HT0 := Aside0.mk (fun W => show Calls Tryz.prog 139 #[.string ⟨#[]⟩, .int .i64 8] W fun e w' => e = .returned (.string (mkS (List.replicate 8 0))) ∧ Below W.heap.size W w' from text_any [] 8 W (by decide) (by decide))
  have HT6 := Aside0.mk (fun W => show Calls Tryz.prog 139 #[.string ⟨#[]⟩, .int .i64 12] W fun e w' => e = .returned (.string (mkS (List.replicate 12 0))) ∧ Below W.heap.size W w' from text_any [] 12 W (by decide) (by decide))
  obtain ⟨Z8, hZ8⟩ : ∃ Z8, List.replicate 8 (0 : UInt8) = Z8 := ⟨_, rfl⟩
  obtain ⟨Z12, hZ12⟩ : ∃ Z12, List.replicate 12 (0 : UInt8) = Z12 := ⟨_, rfl⟩
  have z8 : Z8.length = 8 := by rw [← hZ8]; rfl
  have z12 : Z12.length = 12 := by rw [← hZ12]; rfl
  rw [hL1] at q6 HT2
  rw [hU1] at q7 HT3
  rw [hG1] at q8 HT4
  rw [hM1] at q9 HF6
  rw [hN1] at q10 HF7
  rw [hP1] at q11 HT5
  rw [hZ8] at HT0
  rw [hZ12] at HT6
  rw [hL1, hU1, hG1, hM1, hN1, hP1, hZ12] at eB
  obtain ⟨d1, hd1⟩ : ∃ d1, Z8 ++ [typ] = d1 := ⟨_, rfl⟩
  obtain ⟨d2, hd2⟩ : ∃ d2, d1 ++ L1 = d2 := ⟨_, rfl⟩
  obtain ⟨d3, hd3⟩ : ∃ d3, d2 ++ magicL = d3 := ⟨_, rfl⟩
  obtain ⟨d4, hd4⟩ : ∃ d4, d3 ++ U1 = d4 := ⟨_, rfl⟩
  obtain ⟨d5, hd5⟩ : ∃ d5, d4 ++ G1 = d5 := ⟨_, rfl⟩
  obtain ⟨s2, hs2⟩ : ∃ s2, c5 ++ d5 = s2 := ⟨_, rfl⟩
  obtain ⟨e1, he1⟩ : ∃ e1, M1 ++ N1 = e1 := ⟨_, rfl⟩
  obtain ⟨e2, he2⟩ : ∃ e2, e1 ++ P1 = e2 := ⟨_, rfl⟩
  obtain ⟨e3, he3⟩ : ∃ e3, e2 ++ Z12 = e3 := ⟨_, rfl⟩
  obtain ⟨s3, hs3⟩ : ∃ s3, s2 ++ e3 = s3 := ⟨_, rfl⟩
  have r1 : d1.length = 9 := by rw [← hd1, List.length_append, z8]; rfl
  have r2 : d2.length = 109 := by rw [← hd2, List.length_append, r1, q6]
  have r3 : d3.length = 117 := by rw [← hd3, List.length_append, r2]; rfl
  have r4 : d4.length = 149 := by rw [← hd4, List.length_append, r3, q7]
  have r5 : d5.length = 181 := by rw [← hd5, List.length_append, r4, q8]
  have r6 : s2.length = 329 := by rw [← hs2, List.length_append, hlA, r5]
  have r7 : e1.length = 16 := by rw [← he1, List.length_append, q9, q10]
  have r8 : e2.length = 171 := by rw [← he2, List.length_append, r7, q11]
  have r9 : e3.length = 183 := by rw [← he3, List.length_append, r8, z12]
  have r10 : s3.length = 512 := by rw [← hs3, List.length_append, r6, r9]
  have k1 := fun W => str_add (P := Tryz.prog) (s := mkS Z8) (t := mkS [typ]) rfl rfl hd1 (by omega) W
  have k2 := fun W => str_add (P := Tryz.prog) (s := mkS d1) (t := mkS L1) rfl rfl hd2 (by omega) W
  have k3 := fun W => str_add (P := Tryz.prog) (s := mkS d2) (t := ⟨#[117, 115, 116, 97, 114, 0, 48, 48]⟩) (b := magicL) rfl rfl hd3 (by omega) W
  have k4 := fun W => str_add (P := Tryz.prog) (s := mkS d3) (t := mkS U1) rfl rfl hd4 (by omega) W
  have k5 := fun W => str_add (P := Tryz.prog) (s := mkS d4) (t := mkS G1) rfl rfl hd5 (by omega) W
  have k6 := fun W => str_add (P := Tryz.prog) (s := mkS c5) (t := mkS d5) rfl rfl hs2 (by omega) W
  have k7 := fun W => str_add (P := Tryz.prog) (s := mkS M1) (t := mkS N1) rfl rfl he1 (by omega) W
  have k8 := fun W => str_add (P := Tryz.prog) (s := mkS e1) (t := mkS P1) rfl rfl he2 (by omega) W
  have k9 := fun W => str_add (P := Tryz.prog) (s := mkS e2) (t := mkS Z12) rfl rfl he3 (by omega) W
  have k10 := fun W => str_add (P := Tryz.prog) (s := mkS s2) (t := mkS e3) rfl rfl hs3 (by omega) W
  have hall : s3 = c5 ++ (Z8 ++ blockB ⟨name, mode, uid, gid, size, mtime, typ, link, uname, gname, major, minor, pre⟩) := by
    rw [eB, ← hs3, ← hs2, ← hd5, ← hd4, ← hd3, ← hd2, ← hd1, ← he3, ← he2, ← he1]
    simp only [List.append_assoc]
  obtain ⟨B1, hB1⟩ : ∃ B1, blockB ⟨name, mode, uid, gid, size, mtime, typ, link, uname, gname, major, minor, pre⟩ = B1 := ⟨_, rfl⟩
  have htk : s3.take 148 = c5 := by rw [hall, ← hlA, List.take_left]
  have hdr : s3.drop 156 = B1 := by
    rw [hall, hB1, ← List.append_assoc, show 156 = (c5 ++ Z8).length by rw [List.length_append, hlA, z8], List.drop_left]
  obtain ⟨sm, hsm⟩ : ∃ sm, sumT (sumN c5 B1) = sm := ⟨_, rfl⟩
  have hbt : blockT ⟨name, mode, uid, gid, size, mtime, typ, link, uname, gname, major, minor, pre⟩ = (c5 ++ sm) ++ B1 := by
    unfold blockT
    rw [EA.out, hB1, hsm]
  have HSUM := Aside0.mk (fun W hGW => show Calls Tryz.prog 141 #[.string (mkS s3)] W fun e w' => e = .returned (.string (mkS sm)) ∧ Below W.heap.size W w' from by
    have := sum_any s3 r10 W hGW
    rw [htk, hdr, hsm] at this
    exact this)
  have r11 : sm.length = 8 := by rw [← hsm, sumT_length]
  rw [hB1] at hlB
  obtain ⟨v1, hv1⟩ : ∃ v1, c5 ++ sm = v1 := ⟨_, rfl⟩
  obtain ⟨v2, hv2⟩ : ∃ v2, v1 ++ B1 = v2 := ⟨_, rfl⟩
  rw [hv1, hv2] at hbt
  have r12 : v1.length = 156 := by rw [← hv1, List.length_append, hlA, r11]
  have k11 := fun W => str_add (P := Tryz.prog) (s := mkS c5) (t := mkS sm) rfl rfl hv1 (by omega) W
  have k12 := fun W => str_add (P := Tryz.prog) (s := mkS v1) (t := mkS B1) rfl rfl hv2 (by rw [← hv2, List.length_append, r12, hlB]; decide) W
  have x1 : (mkS s3).extract 0 148 = mkS c5 := by rw [extract_mkS, List.drop_zero, htk]
  have x2 : (mkS s3).extract 156 512 = mkS B1 := by rw [extract_mkS, hdr, List.take_of_length_le (by omega)]
  have hty : strOfNums [(typ.toNat : Int)] = mkS [typ] := by unfold strOfNums mkS; simp
  have HBT := Aside0.mk hbt
  clear eB hL1 hU1 hG1 hM1 hN1 hP1 hZ8 hZ12 hd1 hd2 hd3 hd4 hd5 hs2 he1 he2 he3 hs3 hall hB1 htk hdr hsm hbt hv1 hv2
  clear hA0 hF1 hF2 hF3 hF4 hF5 hc1 hc2 hc3 hc4 hc5 eA m1 m2 m3 m4 m5 m6 m7 m8 m9 m10 m11 m12 HM
  have HB1 := Aside0.mk (below_next HB0.out hb1)
  have KP := Aside0.mk (fun W (hb : Below w1.heap.size w1 W) => And.intro (show W.cell? ⟨w.heap.size, 0, none⟩ = some (.string (mkS name)) ∧ W.cell? ⟨w.heap.size, 1, none⟩ = some (.int .i64 mode) ∧ W.cell? ⟨w.heap.size, 2, none⟩ = some (.int .i64 uid) ∧ W.cell? ⟨w.heap.size, 3, none⟩ = some (.int .i64 gid) ∧ W.cell? ⟨w.heap.size, 4, none⟩ = some (.int .i64 size) ∧ W.cell? ⟨w.heap.size, 5, none⟩ = some (.int .i64 mtime) ∧ W.cell? ⟨w.heap.size, 6, none⟩ = some (.int .u8 (typ.toNat : Int)) ∧ W.cell? ⟨w.heap.size, 7, none⟩ = some (.string (mkS link)) ∧ W.cell? ⟨w.heap.size, 8, none⟩ = some (.string (mkS uname)) ∧ W.cell? ⟨w.heap.size, 9, none⟩ = some (.string (mkS gname)) ∧ W.cell? ⟨w.heap.size, 10, none⟩ = some (.int .i64 major) ∧ W.cell? ⟨w.heap.size, 11, none⟩ = some (.int .i64 minor) ∧ W.cell? ⟨w.heap.size, 12, none⟩ = some (.string (mkS pre)) from ⟨(hb.cell (p := ⟨_, 0, none⟩) (blk_lt g1)).trans (blk_cell g1 0), (hb.cell (p := ⟨_, 1, none⟩) (blk_lt g1)).trans (blk_cell g1 1), (hb.cell (p := ⟨_, 2, none⟩) (blk_lt g1)).trans (blk_cell g1 2), (hb.cell (p := ⟨_, 3, none⟩) (blk_lt g1)).trans (blk_cell g1 3), (hb.cell (p := ⟨_, 4, none⟩) (blk_lt g1)).trans (blk_cell g1 4), (hb.cell (p := ⟨_, 5, none⟩) (blk_lt g1)).trans (blk_cell g1 5), (hb.cell (p := ⟨_, 6, none⟩) (blk_lt g1)).trans (blk_cell g1 6), (hb.cell (p := ⟨_, 7, none⟩) (blk_lt g1)).trans (blk_cell g1 7), (hb.cell (p := ⟨_, 8, none⟩) (blk_lt g1)).trans (blk_cell g1 8), (hb.cell (p := ⟨_, 9, none⟩) (blk_lt g1)).trans (blk_cell g1 9), (hb.cell (p := ⟨_, 10, none⟩) (blk_lt g1)).trans (blk_cell g1 10), (hb.cell (p := ⟨_, 11, none⟩) (blk_lt g1)).trans (blk_cell g1 11), (hb.cell (p := ⟨_, 12, none⟩) (blk_lt g1)).trans (blk_cell g1 12)⟩) (Aside0.mk hb))
  have HR0 := Aside0.mk (Below.refl w1.heap.size w1)
  clear hb1 g0 g1 HB0
  go_region_held3 (fun W => W.cell? ⟨w.heap.size, 0, none⟩ = some (.string (mkS name)) ∧ W.cell? ⟨w.heap.size, 1, none⟩ = some (.int .i64 mode) ∧ W.cell? ⟨w.heap.size, 2, none⟩ = some (.int .i64 uid) ∧ W.cell? ⟨w.heap.size, 3, none⟩ = some (.int .i64 gid) ∧ W.cell? ⟨w.heap.size, 4, none⟩ = some (.int .i64 size) ∧ W.cell? ⟨w.heap.size, 5, none⟩ = some (.int .i64 mtime) ∧ Aside0 (Below w1.heap.size w1 W))
    (first
      | exact (by obtain ⟨⟨x0, x1, x2, x3, x4, x5, x6, x7, x8, x9, x10, x11, x12⟩, xb⟩ := KP.out _ (below_drew HR0.out); exact ⟨x0, x1, x2, x3, x4, x5, xb⟩)
      | exact (by obtain ⟨⟨x0, x1, x2, x3, x4, x5, x6, x7, x8, x9, x10, x11, x12⟩, xb⟩ := KP.out _ hbq; exact ⟨x0, x1, x2, x3, x4, x5, xb⟩))
    ((go_split_ands
      have hbw := Aside0.out (by assumption : Aside0 (Below w1.heap.size w1 _))
      first
      | (go_at_call 139; refine (HT1.out _).mono ?_; rintro e wp ⟨rfl, hbp⟩; have hbq := below_next hbw hbp; have t1 := True.intro)
      | (go_at_call 140; have hh := t5; refine (HF5.out _).mono ?_; rintro e wp ⟨rfl, hbp⟩; have hbq := below_next hbw hbp)
      | (go_at_call 140; have hh := t4; refine (HF4.out _).mono ?_; rintro e wp ⟨rfl, hbp⟩; have hbq := below_next hbw hbp; have t5 := True.intro)
      | (go_at_call 140; have hh := t3; refine (HF3.out _).mono ?_; rintro e wp ⟨rfl, hbp⟩; have hbq := below_next hbw hbp; have t4 := True.intro)
      | (go_at_call 140; have hh := t2; refine (HF2.out _).mono ?_; rintro e wp ⟨rfl, hbp⟩; have hbq := below_next hbw hbp; have t3 := True.intro)
      | (go_at_call 140; have hh := t1; refine (HF1.out _).mono ?_; rintro e wp ⟨rfl, hbp⟩; have hbq := below_next hbw hbp; have t2 := True.intro)))
  go_wp2_with fail
  have HBa := Aside0.mk (Below.trans HR0.out hbq)
  clear hbq hbp
  rename_i wa _
  have SK : ∀ W, Below w1.heap.size w1 W → W.cell? ⟨w.heap.size, 6, none⟩ = some (.int .u8 (typ.toNat : Int)) ∧ W.cell? ⟨w.heap.size, 7, none⟩ = some (.string (mkS link)) ∧ W.cell? ⟨w.heap.size, 8, none⟩ = some (.string (mkS uname)) ∧ W.cell? ⟨w.heap.size, 9, none⟩ = some (.string (mkS gname)) ∧ Put2 (Below w1.heap.size w1 W) := by
    intro W hW
    obtain ⟨⟨x0, x1, x2, x3, x4, x5, x6, x7, x8, x9, x10, x11, x12⟩, xb⟩ := KP.out _ hW
    exact ⟨x6, x7, x8, x9, ⟨xb.out⟩⟩
  have cv1 := fun W : World => one_byte (W.alloc (.cells #[.int .u8 (typ.toNat : Int)] 5)) W.heap.size typ (heap_alloc_new W _)
  have cv2 := fun W : World => show (convert 22 9 (.slice (some ⟨W.heap.size, 0, none⟩) 1 1)).run Tryz.prog (W.drew.alloc (.cells #[.int .u8 (typ.toNat : Int)] 5)) = _ from one_byte (W.drew.alloc (.cells #[.int .u8 (typ.toNat : Int)] 5)) W.heap.size typ (heap_alloc_new W.drew _)
  have cv4 := fun W : World => show (convert 22 9 (.slice (some ⟨W.heap.size, 0, none⟩) 1 1)).run Tryz.prog (W.alloc (.cells #[.int .u8 (typ.toNat : Int)] 5)).drew = _ from one_byte (W.alloc (.cells #[.int .u8 (typ.toNat : Int)] 5)).drew W.heap.size typ (blk_drew (heap_alloc_new W _))
  have cv3 := fun (W : World) (k : Nat) h => one_byte W k typ h
  go_region_held (fun W => W.cell? ⟨w.heap.size, 6, none⟩ = some (.int .u8 (typ.toNat : Int)) ∧ W.cell? ⟨w.heap.size, 7, none⟩ = some (.string (mkS link)) ∧ W.cell? ⟨w.heap.size, 8, none⟩ = some (.string (mkS uname)) ∧ W.cell? ⟨w.heap.size, 9, none⟩ = some (.string (mkS gname)) ∧ Put2 (Below w1.heap.size w1 W))
    ((refine SK _ ?_
      first
      | with_reducible exact below_drew HBa.out
      | with_reducible exact hbq
      | with_reducible exact below_alloc hbq _
      | with_reducible exact below_alloc (below_drew HBa.out) _
      | with_reducible exact below_drew (below_alloc HBa.out _)
      | with_reducible exact below_drew (below_alloc hbq _)))
    ((go_split_ands
      have hbw := Put2.out (by assumption : Put2 (Below w1.heap.size w1 _))
      first
      | (go_at_call 139; have hh := u3; refine (HT4.out _).mono ?_; rintro e wp ⟨rfl, hbp⟩; have hbq := below_next hbw hbp; (first | (have hbk := (hbp.block _ (blk_lt hbk)).trans hbk) | (have hbk := by with_reducible exact (hbp.block _ (blk_lt (blk_drew (heap_alloc_new _ _)))).trans (blk_drew (heap_alloc_new _ _))) | (have hbk := by with_reducible exact (hbp.block _ (blk_lt (heap_alloc_new _ _))).trans (heap_alloc_new _ _)) | skip))
      | (go_at_call 139; have hh := u2; refine (HT3.out _).mono ?_; rintro e wp ⟨rfl, hbp⟩; have hbq := below_next hbw hbp; (first | (have hbk := (hbp.block _ (blk_lt hbk)).trans hbk) | (have hbk := by with_reducible exact (hbp.block _ (blk_lt (blk_drew (heap_alloc_new _ _)))).trans (blk_drew (heap_alloc_new _ _))) | (have hbk := by with_reducible exact (hbp.block _ (blk_lt (heap_alloc_new _ _))).trans (heap_alloc_new _ _)) | skip); have u3 := True.intro)
      | (go_at_call 139; have hh := u1; refine (HT2.out _).mono ?_; rintro e wp ⟨rfl, hbp⟩; have hbq := below_next hbw hbp; (first | (have hbk := (hbp.block _ (blk_lt hbk)).trans hbk) | (have hbk := by with_reducible exact (hbp.block _ (blk_lt (blk_drew (heap_alloc_new _ _)))).trans (blk_drew (heap_alloc_new _ _))) | (have hbk := by with_reducible exact (hbp.block _ (blk_lt (heap_alloc_new _ _))).trans (heap_alloc_new _ _)) | skip); have u2 := True.intro)
      | (go_at_call 139; refine (HT0.out _).mono ?_; rintro e wp ⟨rfl, hbp⟩; have hbq := below_next hbw hbp; (first | (have hbk := (hbp.block _ (blk_lt hbk)).trans hbk) | (have hbk := by with_reducible exact (hbp.block _ (blk_lt (blk_drew (heap_alloc_new _ _)))).trans (blk_drew (heap_alloc_new _ _))) | (have hbk := by with_reducible exact (hbp.block _ (blk_lt (heap_alloc_new _ _))).trans (heap_alloc_new _ _)) | skip); have u1 := True.intro)))
  all_goals (rename_i hlast; have HBb := Aside0.mk hlast.2.2.2.2.out)
  all_goals (try clear hbq)
  all_goals (try clear hbp)
  all_goals (try clear hbk)
  all_goals clear cv1 cv2 cv3 cv4 SK
  all_goals
    go_wp2_with fail
    have SK3 : ∀ W, Below w1.heap.size w1 W → W.cell? ⟨w.heap.size, 10, none⟩ = some (.int .i64 major) ∧ W.cell? ⟨w.heap.size, 11, none⟩ = some (.int .i64 minor) ∧ W.cell? ⟨w.heap.size, 12, none⟩ = some (.string (mkS pre)) ∧ Put3 (Below w1.heap.size w1 W) := by
      intro W hW
      obtain ⟨⟨x0, x1, x2, x3, x4, x5, x6, x7, x8, x9, x10, x11, x12⟩, xb⟩ := KP.out _ hW
      exact ⟨x10, x11, x12, ⟨xb.out⟩⟩
    go_region_held3 (fun W => W.cell? ⟨w.heap.size, 10, none⟩ = some (.int .i64 major) ∧ W.cell? ⟨w.heap.size, 11, none⟩ = some (.int .i64 minor) ∧ W.cell? ⟨w.heap.size, 12, none⟩ = some (.string (mkS pre)) ∧ Put3 (Below w1.heap.size w1 W))
      ((refine SK3 _ ?_
        first
        | with_reducible exact below_drew HBb.out
        | with_reducible exact hbq))
      ((go_split_ands
        have hbw := Put3.out (by assumption : Put3 (Below w1.heap.size w1 _))
        first
        | (go_at_call 139; have hh := y3; refine (HT6.out _).mono ?_; rintro e wp ⟨rfl, hbp⟩; have hbq := below_next hbw hbp)
        | (go_at_call 139; have hh := y2; refine (HT5.out _).mono ?_; rintro e wp ⟨rfl, hbp⟩; have hbq := below_next hbw hbp; have y3 := True.intro)
        | (go_at_call 140; have hh := y1; refine (HF7.out _).mono ?_; rintro e wp ⟨rfl, hbp⟩; have hbq := below_next hbw hbp; have y2 := True.intro)
        | (go_at_call 140; refine (HF6.out _).mono ?_; rintro e wp ⟨rfl, hbp⟩; have hbq := below_next hbw hbp; have y1 := True.intro)))
    clear SK3
    have HBc := Aside0.mk hbq
    clear hbq hbp
    go_wp2_with fail
    go_region_held3 (fun W => Put4 (Below w1.heap.size w1 W))
      ((refine Put4.mk ?_
        first
        | with_reducible exact below_drew HBc.out
        | with_reducible exact hbq))
      ((go_split_ands
        have hbw := Put4.out (by assumption : Put4 (Below w1.heap.size w1 _))
        go_at_call 141; refine (HSUM.out _ (HG.out.below (below_next HB1.out hbw))).mono ?_; rintro e wp ⟨rfl, hbp⟩; have hbq := below_next hbw hbp))
    have HBd := Aside0.mk hbq
    clear hbq hbp
    go_wp2_with fail
    go_ret
    exact ⟨by rw [HBT.out]; rfl, below_next HB1.out HBd.out⟩
end Go.Proofs.YtbjbnipjeehaoaaGreatDoor.H
end
namespace Go.Proofs.YtbjbnipjeehaoaaGreatDoor
open Go.RowKit Go.Proofs.YtbjbnipjeehaoaaGreatDoorW.PrintWords
/-- An entry without lists, names, caps, flags. -/
structure En where
  path : List UInt8
  kind : Int
  mode : Int
  uid : Int
  gid : Int
  sec : Int
  nano : Int
  data : List UInt8
  target : List UInt8
  major : Int
  minor : Int
def enCells (e : En) : Array Value :=
  #[.string (mkS e.path), .int .i64 e.kind, .int .i64 e.mode, .int .i64 e.uid, .int .i64 e.gid, .int .i64 e.sec, .int .i64 e.nano, .slice none 0 0, .slice none 0 0, .slice none 0 0, .int .i64 0, .int .u64 0, .int .u64 0, .bool false, .int .i64 0, .int .i64 0, .string (mkS e.data), .string (mkS e.target), .int .i64 e.major, .int .i64 e.minor]
/-- Numbers that the machine has, texts of a few million bytes at most. -/
structure EnFits (e : En) : Prop where
  kind : 1 ≤ e.kind ∧ e.kind ≤ 8
  mode : -9223372036854775808 ≤ e.mode ∧ e.mode ≤ 9223372036854775807
  uid : -9223372036854775808 ≤ e.uid ∧ e.uid ≤ 9223372036854775807
  gid : -9223372036854775808 ≤ e.gid ∧ e.gid ≤ 9223372036854775807
  sec : -9223372036854775808 ≤ e.sec ∧ e.sec ≤ 9223372036854775807
  nano : -9223372036854775808 ≤ e.nano ∧ e.nano ≤ 9223372036854775807
  major : -9223372036854775808 ≤ e.major ∧ e.major ≤ 9223372036854775807
  minor : -9223372036854775808 ≤ e.minor ∧ e.minor ≤ 9223372036854775807
  path : e.path.length ≤ 100000
  data : e.data.length ≤ 100000
  target : e.target.length ≤ 100000
def smallId (n : Int) : Int := if n ≤ 2097151 then n else 0
def lateT (sec nano : Int) : Bool := nano != 0 || decide (sec < 0) || decide (8589934591 < sec)
def typE (kind : Int) : UInt8 := UInt8.ofNat (47 + kind.toNat)
def headE (e : En) : H.Hd :=
  ⟨if (H.splitT e.path).2.2 = true then (H.splitT e.path).2.1 else e.path.take 100, e.mode, smallId e.uid, smallId e.gid, e.data.length, if lateT e.sec e.nano = true then 0 else e.sec, typE e.kind, e.target.take 100, [], [], e.major, e.minor, (H.splitT e.path).1⟩
/- Data with bytes 0 behind it. -/
def roomT (n : Nat) : Nat := (n + 511) / 512 * 512
def padT (l : List UInt8) : List UInt8 := l ++ List.replicate (roomT l.length - l.length) 0
theorem padT_length (l : List UInt8) : (padT l).length = roomT l.length := by
  unfold padT roomT
  rw [List.length_append, List.length_replicate]
  omega
set_option maxRecDepth 100000 in
theorem roomSize_any (n : Nat) (hn : n ≤ 1000000) (w : World) : Calls Tryz.prog 142 #[.int .i64 (n : Int)] w fun e w' => e = .returned (.int .i64 (roomT n : Int)) ∧ w' = w := by
  have m1 : min (n : Int) 4611686018427387904 = n := by omega
  have m2 : max 0 (n : Int) = n := by omega
  have a1 : IntKind.i64.wrap ((n : Int) + 512) = (n : Int) + 512 := by rw [IntKind.wrap_i64]; omega
  have a2 : IntKind.i64.wrap ((n : Int) + 512 - 1) = ((n + 511 : Nat) : Int) := by rw [IntKind.wrap_i64]; omega
  obtain ⟨q, hq⟩ : ∃ q : Nat, (n + 511) / 512 = q := ⟨_, rfl⟩
  have a3 : Int.tdiv ((n + 511 : Nat) : Int) 512 = (q : Int) := by rw [Int.tdiv_eq_ediv_of_nonneg (by omega)]; omega
  have a4 : ((n + 511 : Nat) : Int) / 512 = (q : Int) := by omega
  have a5 : IntKind.i64.wrap (q : Int) = q := by rw [IntKind.wrap_i64]; omega
  have a6 : IntKind.i64.wrap ((q : Int) * 512) = ((q * 512 : Nat) : Int) := by rw [IntKind.wrap_i64]; omega
  have hr : roomT n = q * 512 := by unfold roomT; rw [hq]
  rw [hr]
  go_enter Tryz.func142, Tryz.ntmps142
  go_wp2_with fail
  go_ret
  exact ⟨by go_num, rfl⟩
set_option maxRecDepth 100000 in
theorem padPut_any (l : List UInt8) (hl : l.length ≤ 1000000) (w : World) : Calls Tryz.prog 71 #[.string (mkS l)] w fun e w' => e = .returned (.string (mkS (padT l))) ∧ Below w.heap.size w w' := by
  have hS := roomSize_any l.length hl w
  obtain ⟨c, hc⟩ : ∃ c, roomT l.length - l.length = c := ⟨_, rfl⟩
  have hr : (roomT l.length : Int) - l.length = c := by unfold roomT at *; omega
  have hcl : c ≤ 512 := by unfold roomT at hc; omega
  have hw : IntKind.i64.wrap (c : Int) = c := by rw [IntKind.wrap_i64]; omega
  have HC := Aside0.mk (H.repeat_byte 0 c c rfl w (by omega))
  have hp : padT l = l ++ List.replicate c 0 := by unfold padT; rw [hc]
  obtain ⟨p, hpp⟩ : ∃ p, l ++ List.replicate c 0 = p := ⟨_, rfl⟩
  have hpl : p.length ≤ 2000000 := by rw [← hpp, List.length_append, List.length_replicate]; omega
  rw [hp, hpp]
  have a1 := fun W => H.str_add (P := Tryz.prog) (s := mkS l) (t := mkS (List.replicate c 0)) rfl rfl hpp (by omega) W
  have HS := Aside0.mk hS
  generalize roomT l.length = r at *
  clear hS hp hpp hc
  go_enter Tryz.func71, Tryz.ntmps71
  go_wp2_with fail
  refine HS.out.mono ?_
  rintro e w1 ⟨rfl, rfl⟩
  go_wp2_with fail
  refine HC.out.mono ?_
  rintro e w2 ⟨rfl, hb⟩
  go_wp2_with fail
  go_ret
  exact ⟨rfl, hb⟩
set_option maxRecDepth 100000 in
theorem first_any (l : List UInt8) (hl : l.length ≤ 1000000) (w : World) : Calls Tryz.prog 66 #[.string (mkS l)] w fun e w' => e = .returned (.string (mkS (l.take 100))) ∧ w' = w := by
  obtain ⟨t, ht⟩ : ∃ t, l.take 100 = t := ⟨_, rfl⟩
  have x0 : min (l.length : Int) 100 = (t.length : Int) := by rw [← ht, List.length_take]; omega
  have x1 : (mkS l).extract 0 t.length = mkS t := by
    rw [extract_mkS, List.drop_zero, Nat.sub_zero, ← ht, List.length_take]
    by_cases h : 100 ≤ l.length
    · rw [Nat.min_eq_left h]
    · rw [Nat.min_eq_right (by omega), List.take_length, List.take_of_length_le (by omega)]
  have x2 : (t.length : Int) ≤ l.length := by rw [← ht, List.length_take]; omega
  rw [ht]
  clear ht
  go_enter Tryz.func66, Tryz.ntmps66
  go_wp2_with fail
  go_ret
  exact ⟨rfl, rfl⟩
set_option maxRecDepth 100000 in
theorem late_any (s n : Int) (w : World) : Calls Tryz.prog 49 #[.agg #[.int .i64 s, .int .i64 n]] w fun e w' => e = .returned (.bool (lateT s n)) ∧ Below w.heap.size w w' := by
  obtain ⟨r, hr⟩ : ∃ r, r = lateT s n := ⟨_, rfl⟩
  rw [← hr]
  unfold lateT at hr
  have HB := Aside0.mk (below_alloc (Below.refl w.heap.size w) (.cells #[.int .i64 s, .int .i64 n] 24))
  have HR := Aside0.mk hr
  clear hr
  by_cases h1 : n = 0
  · subst h1
    by_cases h2 : s < 0
    · have HR2 := Aside0.mk (show r = true by rw [HR.out]; simp [h2])
      go_enter Tryz.func49, Tryz.ntmps49
      go_wp2_with fail
      go_ret
      exact ⟨by rw [HR2.out]; rfl, HB.out⟩
    · by_cases h3 : 8589934591 < s
      · have HR2 := Aside0.mk (show r = true by rw [HR.out]; simp [h3])
        go_enter Tryz.func49, Tryz.ntmps49
        go_wp2_with fail
        go_ret
        exact ⟨by rw [HR2.out]; rfl, HB.out⟩
      · have HR2 := Aside0.mk (show r = false by rw [HR.out]; simp [h2, h3])
        go_enter Tryz.func49, Tryz.ntmps49
        go_wp2_with fail
        go_ret
        exact ⟨by rw [HR2.out]; rfl, HB.out⟩
  · have e1 : (n == 0) = false := by simpa using h1
    have HR2 := Aside0.mk (show r = true by rw [HR.out]; simp [h1])
    go_enter Tryz.func49, Tryz.ntmps49
    go_wp2_with fail
    go_ret
    exact ⟨by rw [HR2.out]; rfl, HB.out⟩
end Go.Proofs.YtbjbnipjeehaoaaGreatDoor
namespace Go.Proofs.YtbjbnipjeehaoaaGreatDoor
open Go.RowKit
section
variable {P : Program} {ops : Array Oper} {Q : Exit → Act → World → Prop}
def undone (n : Nat) (listed : Array Bool) : Nat := (List.range n).countP (fun i => !listed.getD i true)
theorem countP_less {α : Type} (p q : α → Bool) (i : α) : ∀ l : List α, i ∈ l → (∀ x, q x = true → p x = true) → p i = true → q i = false → l.countP q < l.countP p
  | [], h, _, _, _ => by cases h
  | x :: l, h, hq, hp, hn => by
    have hle : l.countP q ≤ l.countP p := List.countP_mono_left (fun x _ => hq x)
    rw [List.countP_cons, List.countP_cons]
    rcases List.mem_cons.1 h with rfl | h
    · rw [hp, hn]; simp; omega
    · have := countP_less p q i l h hq hp hn
      by_cases hx : q x = true
      · rw [if_pos hx, if_pos (hq x hx)]; omega
      · rw [if_neg hx]; split <;> omega
theorem getD_setT (listed : Array Bool) (i j : Nat) (d : Bool) (hi : i < listed.size) : (listed.setIfInBounds i true).getD j d = if j = i then true else listed.getD j d := by
  simp only [Array.getD_eq_getD_getElem?, Array.getElem?_setIfInBounds]
  by_cases h : i = j
  · subst h; simp [hi]
  · rw [if_neg h, if_neg (Ne.symm h)]
theorem undone_set {n i : Nat} {listed : Array Bool} (hs : listed.size = n) (hi : i < n) (h : listed.getD i true = false) : undone n (listed.setIfInBounds i true) < undone n listed := by
  unfold undone
  refine countP_less _ _ i _ (List.mem_range.2 hi) ?_ (by simp [h]) ?_
  · intro x hx
    rw [getD_setT _ _ _ _ (by omega)] at hx
    split at hx
    · simp at hx
    · exact hx
  · rw [getD_setT _ _ _ _ (by omega), if_pos rfl]; rfl
theorem wpAny_inv (I : Array Bool → Act → World → Prop)
    (hs : ∀ listed a w i, listed.size = ops.size → I listed a w → i ∈ Region.ready .any ops listed → wpOp P ops Q i (fun a' w' => I (listed.setIfInBounds i true) a' w') a w)
    (he : ∀ listed a w, listed.size = ops.size → Region.ready .any ops listed = [] → I listed a w → Q .normal a w) :
    ∀ fuel listed a w, listed.size = ops.size → undone ops.size listed ≤ fuel → I listed a w → wpAny P .any ops Q fuel listed a w := by
  have hmem : ∀ (listed : Array Bool) i, i ∈ Region.ready .any ops listed → i < ops.size ∧ listed.getD i true = false := by
    intro listed i hi
    obtain ⟨h1, o, h2, _⟩ := mem_ready.1 hi
    refine ⟨?_, h1⟩
    by_cases h : i < ops.size
    · exact h
    · rw [Array.getElem?_eq_none (by omega)] at h2; cases h2
  intro fuel
  induction fuel with
  | zero =>
    intro listed a w hsz hu hI
    have hr : Region.ready .any ops listed = [] := by
      cases hr : Region.ready .any ops listed with
      | nil => rfl
      | cons i l =>
        obtain ⟨h1, h2⟩ := hmem listed i (by rw [hr]; exact List.mem_cons_self ..)
        have := undone_set hsz h1 h2
        omega
    exact ⟨hr, he listed a w hsz hr hI⟩
  | succ fuel ih =>
    intro listed a w hsz hu hI
    refine ⟨fun hr => he listed a w hsz hr hI, fun i hi => ?_⟩
    obtain ⟨h1, h2⟩ := hmem listed i hi
    have := undone_set hsz h1 h2
    exact wpOp_mono (fun a' w' h => ih _ a' w' (by simp [hsz]) (by omega) h) (hs listed a w i hsz hI hi)
/- The frame: what has come up stands in its own temporary. -/
def dstOf (ops : Array Oper) (j : Nat) : Option Tmp := (ops[j]?).bind (·.dst)
def upd {α : Type} (f : Nat → α) (i : Nat) (v : α) : Nat → α := fun j => if j = i then v else f j
structure Fr (ops : Array Oper) (a0 : Act) (L : Nat → Bool) (vs : Nat → Value) (a : Act) : Prop where
  size : a.tmps.size = a0.tmps.size
  defers : a.defers = a0.defers
  hit : ∀ j d, L j = true → dstOf ops j = some d → a.tmps[d]? = some (vs j)
  miss : ∀ t, (∀ j, L j = true → dstOf ops j ≠ some t) → a.tmps[t]? = a0.tmps[t]?
/-- Each waits for earlier ones alone, temporaries apart and in the frame. -/
def plainOps (ops : Array Oper) (n : Nat) : Bool :=
  (List.range ops.size).all fun i => match ops[i]? with
    | some o => (o.after.all fun e => !Region.binds .any e || decide (e.on < i)) && (match o.dst with | some d => decide (d < n) && ((List.range i).all fun j => dstOf ops j != some d) | none => true)
    | none => false
theorem plain_at {n i : Nat} {o : Oper} (h : plainOps ops n = true) (ho : ops[i]? = some o) : True ∧ (∀ e ∈ o.after, Region.binds .any e = true → e.on < i) ∧ (∀ d, o.dst = some d → d < n ∧ ∀ j, j < i → dstOf ops j ≠ some d) := by
  have hi : i < ops.size := by
    by_cases h : i < ops.size
    · exact h
    · rw [Array.getElem?_eq_none (by omega)] at ho; cases ho
  have := List.all_eq_true.1 h i (List.mem_range.2 hi)
  rw [ho] at this
  simp only [Bool.and_eq_true] at this
  obtain ⟨h2, h3⟩ := this
  refine ⟨trivial, fun e he hb => ?_, fun d hd => ?_⟩
  · obtain ⟨k, hk, rfl⟩ := Array.mem_iff_getElem.1 he
    have := Array.all_eq_true.1 h2 k hk
    rw [hb] at this
    simpa using this
  · rw [hd] at h3
    simp only [Bool.and_eq_true, decide_eq_true_eq] at h3
    refine ⟨h3.1, fun j hj => ?_⟩
    have := List.all_eq_true.1 h3.2 j (List.mem_range.2 hj)
    simpa using this
theorem dst_apart {n i j : Nat} {d : Tmp} (h : plainOps ops n = true) (hi : dstOf ops i = some d) (hj : dstOf ops j = some d) : i = j := by
  have key : ∀ i j, i < j → dstOf ops i = some d → dstOf ops j = some d → False := by
    intro i j hlt hi hj
    cases ho : ops[j]? with
    | none => unfold dstOf at hj; rw [ho] at hj; cases hj
    | some o =>
      have hd : o.dst = some d := by unfold dstOf at hj; rw [ho] at hj; exact hj
      exact ((plain_at h ho).2.2 d hd).2 i hlt hi
  rcases Nat.lt_trichotomy i j with hh | hh | hh
  · exact (key i j hh hi hj).elim
  · exact hh
  · exact (key j i hh hj hi).elim
theorem put_get (a : Act) (dst : Option Tmp) (v : Value) (t : Nat) : (a.put dst v).tmps[t]? = match dst with | some d => if d = t then (if d < a.tmps.size then some v else none) else a.tmps[t]? | none => a.tmps[t]? := by
  cases dst with
  | none => rfl
  | some d => simp [Act.put, Array.getElem?_setIfInBounds]
theorem Fr.put {a0 a : Act} {L : Nat → Bool} {vs : Nat → Value} {n i : Nat} {o : Oper} (h : plainOps ops n = true) (hn : a0.tmps.size = n) (ho : ops[i]? = some o) (hL : L i = false) (hF : Fr ops a0 L vs a) (v : Value) :
    Fr ops a0 (upd L i true) (upd vs i v) (a.put o.dst v) := by
  have hdi : dstOf ops i = o.dst := by unfold dstOf; rw [ho]; rfl
  refine ⟨?_, ?_, ?_, ?_⟩
  · rw [← hF.size]; cases o.dst <;> simp [Act.put]
  · rw [← hF.defers]; cases o.dst <;> rfl
  · intro j d hj hd
    rw [put_get]
    by_cases hji : j = i
    · subst hji
      rw [hdi] at hd
      rw [hd]
      simp only [if_true]
      rw [if_pos (by rw [hF.size, hn]; exact ((plain_at h ho).2.2 d hd).1)]
      simp [upd]
    · have h2 : L j = true := by unfold upd at hj; rw [if_neg hji] at hj; exact hj
      have hne : o.dst ≠ some d := fun he => hji (dst_apart h hd (hdi.trans he))
      have e : upd vs i v j = vs j := if_neg hji
      rw [e, ← hF.hit j d h2 hd]
      cases ho2 : o.dst with
      | none => rfl
      | some d' =>
        have : ¬ d' = d := fun e => hne (by rw [ho2, e])
        simp only [if_neg this]
  · intro t ht
    rw [put_get]
    have h2 : o.dst ≠ some t := by rw [← hdi]; exact ht i (by simp [upd])
    have h3 := hF.miss t (fun j hj => ht j (by unfold upd; split <;> simp [hj]))
    rw [← h3]
    cases ho2 : o.dst with
    | none => rfl
    | some d' =>
      have : ¬ d' = t := fun e => h2 (by rw [ho2, e])
      simp only [if_neg this]
theorem Fr.start {a0 : Act} {vs : Nat → Value} : Fr ops a0 (fun _ => false) vs a0 := ⟨rfl, rfl, fun _ _ h => (nomatch h), fun _ _ => rfl⟩
theorem Fr.unique {a0 a a' : Act} {L : Nat → Bool} {vs : Nat → Value} (h : Fr ops a0 L vs a) (h' : Fr ops a0 L vs a') : a = a' := by
  have ht : a.tmps = a'.tmps := by
    apply Array.ext_getElem?
    intro t
    by_cases hx : ∃ j, L j = true ∧ dstOf ops j = some t
    · obtain ⟨j, h1, h2⟩ := hx
      rw [h.hit j t h1 h2, h'.hit j t h1 h2]
    · have : ∀ j, L j = true → dstOf ops j ≠ some t := fun j h1 h2 => hx ⟨j, h1, h2⟩
      rw [h.miss t this, h'.miss t this]
  have hd := h.defers.trans h'.defers.symm
  cases a; cases a'
  simp only at ht hd
  rw [ht, hd]
/-- The frame when all has come up. -/
def finTo (ops : Array Oper) (vs : Nat → Value) (a : Act) : Nat → Act
  | 0 => a
  | k + 1 => (finTo ops vs a k).put (dstOf ops k) (vs k)
theorem Fr.fin {a0 : Act} {vs : Nat → Value} {n : Nat} (h : plainOps ops n = true) (hn : a0.tmps.size = n) : ∀ k, k ≤ ops.size → Fr ops a0 (fun j => decide (j < k)) vs (finTo ops vs a0 k)
  | 0, _ => by
    have : (fun j : Nat => decide (j < 0)) = fun _ => false := by funext j; simp
    rw [this]
    exact Fr.start
  | k + 1, hk => by
    have ih := Fr.fin (vs := vs) h hn k (by omega)
    have ho : ops[k]? = some ops[k] := Array.getElem?_eq_getElem (by omega)
    have := ih.put h hn ho (by simp) (vs k)
    have e1 : upd (fun j => decide (j < k)) k true = fun j => decide (j < k + 1) := by
      funext j
      unfold upd
      by_cases hj : j = k
      · rw [if_pos hj]; simp [hj]
      · rw [if_neg hj]; exact decide_eq_decide.2 (by omega)
    have e2 : upd vs k (vs k) = vs := by
      funext j
      unfold upd
      split
      · rename_i h; rw [h]
      · rfl
    rw [e1, e2] at this
    have e3 : (ops[k]).dst = dstOf ops k := by unfold dstOf; rw [ho]; rfl
    rw [e3] at this
    exact this
/-- Every guard is a value that is known, and lets the operation come. -/
def guardsOk (ops : Array Oper) (c : Nat → Option Value) : Bool :=
  (List.range ops.size).all fun i => match ops[i]? with
    | some o => match o.guard with
      | none => true
      | some (g, want) => (o.after.any fun e => e.on == g && Region.binds .any e) && (dstOf ops g).isSome && (match c g with | some (.bool b) => b == want | _ => false)
    | none => false
theorem guard_wanted {c : Nat → Option Value} {i : Nat} {o : Oper} {L : Nat → Bool} {vs : Nat → Value} {a0 a : Act} (hg : guardsOk ops c = true) (ho : ops[i]? = some o) (hA : ∀ e ∈ o.after, Region.binds .any e = true → L e.on = true) (hF : Fr ops a0 L vs a) (hv : ∀ j v, c j = some v → L j = true → vs j = v) : Region.wanted o (yielded ops a.tmps) = true := by
  have hi : i < ops.size := by
    by_cases h : i < ops.size
    · exact h
    · rw [Array.getElem?_eq_none (by omega)] at ho; cases ho
  have h := List.all_eq_true.1 hg i (List.mem_range.2 hi)
  rw [ho] at h
  simp only at h
  unfold Region.wanted
  cases hgd : o.guard with
  | none => rfl
  | some gw =>
    obtain ⟨g, want⟩ := gw
    rw [hgd] at h
    simp only [Bool.and_eq_true] at h
    obtain ⟨⟨h1, h2⟩, h3⟩ := h
    obtain ⟨k, hk, h4⟩ := Array.any_eq_true.1 h1
    simp only [Bool.and_eq_true, beq_iff_eq] at h4
    have hLg : L g = true := by rw [← h4.1]; exact hA _ (Array.getElem_mem hk) h4.2
    obtain ⟨d, hd⟩ := Option.isSome_iff_exists.1 h2
    have ht := hF.hit g d hLg hd
    simp only
    cases hc : c g with
    | none => rw [hc] at h3; simp at h3
    | some v =>
      rw [hc] at h3
      cases v with
      | bool b =>
        rw [hv g _ hc hLg] at ht
        have hb : b = want := by simpa using h3
        subst hb
        unfold yielded
        have hd2 : (ops[g]?).bind (·.dst) = some d := hd
        rw [hd2]
        simp [ht]
      | _ => simp at h3
/-- Each operation once, in whatever world the invariant lets stand. -/
theorem wp_region_inv {id : Nat} {a : Act} {w : World} (hm : P.follows .mixedOrders = true) (hok : plainOps ops a.tmps.size = true)
    (G : (Nat → Bool) → (Nat → Value) → World → Prop) (vs0 : Nat → Value) (h0 : G (fun _ => false) vs0 w.drew)
    (hwt : ∀ (i : Nat) (o : Oper) (L : Nat → Bool) (vs : Nat → Value) (a' : Act) (w' : World), ops[i]? = some o → (∀ e ∈ o.after, Region.binds .any e = true → L e.on = true) → Fr ops a L vs a' → G L vs w' → Region.wanted o (yielded ops a'.tmps) = true ∨ (Region.wanted o (yielded ops a'.tmps) = false ∧ G (upd L i true) (upd vs i undef) w'))
    (hs : ∀ i o L vs a' w', ops[i]? = some o → L i = false → (∀ e ∈ o.after, Region.binds .any e = true → L e.on = true) → Fr ops a L vs a' → G L vs w' → Region.wanted o (yielded ops a'.tmps) = true →
      ∀ K : Act → World → Prop, (∀ v w'', G (upd L i true) (upd vs i v) w'' → K (a'.put o.dst v) w'') → Oper.wp P o a' w' K Q)
    (he : ∀ vs w', G (fun j => decide (j < ops.size)) vs w' → Q .normal (finTo ops vs a ops.size) w') :
    (Code.region id ops true).wp P Q a w := by
  refine wp_region_any hm ?_
  refine wpAny_inv (fun listed a' w' => ∃ vs, Fr ops a (fun j => listed.getD j false) vs a' ∧ G (fun j => listed.getD j false) vs w') ?_ ?_ _ _ _ _ (by simp) ?_ ?_
  · rintro listed a' w' i hsz ⟨vs, hF, hG⟩ hi
    obtain ⟨h1, o, h2, h3⟩ := mem_ready.1 hi
    have hlt : i < ops.size := by
      by_cases h : i < ops.size
      · exact h
      · rw [Array.getElem?_eq_none (by omega)] at h2; cases h2
    have hLi : listed.getD i false = false := by
      simp only [Array.getD_eq_getD_getElem?] at h1 ⊢
      rw [Array.getElem?_eq_getElem (by omega)] at h1 ⊢
      exact h1
    have hup : (fun j => (listed.setIfInBounds i true).getD j false) = upd (fun j => listed.getD j false) i true := by
      funext j
      rw [getD_setT _ _ _ _ (by omega)]
      rfl
    unfold wpOp
    simp only [h2]
    rcases hwt i o _ vs a' w' h2 h3 hF hG with hw | ⟨hw, hG2⟩
    · rw [if_pos hw]
      left
      refine hs i o _ vs a' w' h2 hLi h3 hF hG hw _ (fun v w'' hG2 => ?_)
      refine ⟨upd vs i v, ?_, ?_⟩
      · rw [hup]; exact hF.put hok rfl h2 hLi v
      · rw [hup]; exact hG2
    · rw [if_neg (by rw [hw]; exact Bool.false_ne_true)]
      refine ⟨upd vs i undef, ?_, ?_⟩
      · rw [hup]; exact hF.put hok rfl h2 hLi undef
      · rw [hup]; exact hG2
  · rintro listed a' w' hsz hr ⟨vs, hF, hG⟩
    have hall : ∀ i, i < ops.size → listed.getD i false = true := by
      intro i
      induction i using Nat.strongRecOn with
      | ind i ih =>
        intro hi
        cases hl : listed.getD i false with
        | true => rfl
        | false =>
          exfalso
          have ho : ops[i]? = some ops[i] := Array.getElem?_eq_getElem hi
          have : i ∈ Region.ready .any ops listed := by
            refine mem_ready.2 ⟨?_, _, ho, fun e he hb => ih e.on ((plain_at hok ho).2.1 e he hb) (Nat.lt_trans ((plain_at hok ho).2.1 e he hb) hi)⟩
            simp only [Array.getD_eq_getD_getElem?] at hl ⊢
            rw [Array.getElem?_eq_getElem (by omega)] at hl ⊢
            exact hl
          rw [hr] at this
          cases this
    have hL : (fun j => listed.getD j false) = fun j => decide (j < ops.size) := by
      funext j
      by_cases hj : j < ops.size
      · rw [hall j hj]; simp [hj]
      · simp only [Array.getD_eq_getD_getElem?]
        rw [Array.getElem?_eq_none (by omega)]
        simp; omega
    rw [hL] at hF hG
    have := hF.unique (Fr.fin (vs := vs) hok rfl ops.size (Nat.le_refl _))
    rw [this]
    exact he vs w' hG
  · unfold undone
    have := List.countP_le_length (p := fun i => !(Array.replicate ops.size false).getD i true) (l := List.range ops.size)
    simpa using this
  · have : (fun j => (Array.replicate ops.size false).getD j false) = fun _ => false := by
      funext j
      simp only [Array.getD_eq_getD_getElem?, Array.getElem?_replicate]
      split <;> rfl
    exact ⟨vs0, by rw [this]; exact Fr.start, by rw [this]; exact h0⟩
theorem Fr.old {a0 a : Act} {L : Nat → Bool} {vs : Nat → Value} {t : Tmp} {v : Value} (h : Fr ops a0 L vs a) (hv : a0.tmps[t]? = some v) (hc : ((List.range ops.size).all fun j => dstOf ops j != some t) = true) : a.tmps[t]? = some v := by
  rw [h.miss t, hv]
  intro j hj he
  by_cases hlt : j < ops.size
  · have := List.all_eq_true.1 hc j (List.mem_range.2 hlt)
    rw [he] at this
    simp at this
  · unfold dstOf at he
    rw [Array.getElem?_eq_none (by omega)] at he
    cases he
/- A list of operations, one after another. -/
inductive AllAt (C : Nat → Oper → Prop) : Nat → List Oper → Prop
  | nil {n : Nat} : AllAt C n []
  | cons {n : Nat} {o : Oper} {l : List Oper} (h : C n o) (hs : AllAt C (n + 1) l) : AllAt C n (o :: l)
theorem AllAt.at {C : Nat → Oper → Prop} {o : Oper} : ∀ {n i : Nat} {l : List Oper}, AllAt C n l → l[i]? = some o → C (n + i) o
  | n, i, [], _, hi => by simp at hi
  | n, 0, x :: l, .cons h _, hi => by
    simp only [List.getElem?_cons_zero, Option.some.injEq] at hi
    subst hi
    exact h
  | n, i + 1, x :: l, .cons _ hs, hi => by
    simp only [List.getElem?_cons_succ] at hi
    have := AllAt.at hs hi
    rwa [show n + 1 + i = n + (i + 1) by omega] at this
/- Which value each operation leaves ('c'), or what it makes ('mk'); the world only grows. -/
structure Plan (w0 : World) (c : Nat → Option Value) (mk : Nat → World → Value → Prop) (L : Nat → Bool) (vs : Nat → Value) (w : World) : Prop where
  below : Below w0.heap.size w0 w
  val : ∀ j v, c j = some v → L j = true → vs j = v
  made : ∀ j, L j = true → mk j w (vs j)
theorem Plan.start {w0 : World} {c : Nat → Option Value} {mk : Nat → World → Value → Prop} {vs : Nat → Value} : Plan w0 c mk (fun _ => false) vs w0.drew :=
  ⟨(Below.refl _ _).drew, fun _ _ _ h => (nomatch h), fun _ h => (nomatch h)⟩
def Keeps (mk : Nat → World → Value → Prop) : Prop := ∀ j w w' v, Below w.heap.size w w' → mk j w v → mk j w' v
theorem Plan.next {w0 : World} {c : Nat → Option Value} {mk : Nat → World → Value → Prop} {L : Nat → Bool} {vs : Nat → Value} {w : World} (h : Plan w0 c mk L vs w) (hmk : Keeps mk) {i : Nat} {v : Value} {w' : World} (hv : ∀ u, c i = some u → v = u) (hm : mk i w' v) (hb : Below w.heap.size w w') :
    Plan w0 c mk (upd L i true) (upd vs i v) w' := by
  refine ⟨below_next h.below hb, fun j u hj hL => ?_, fun j hL => ?_⟩
  · by_cases hji : j = i
    · subst hji; rw [upd, if_pos rfl]; exact hv u hj
    · rw [upd, if_neg hji]; rw [upd, if_neg hji] at hL; exact h.val j u hj hL
  · by_cases hji : j = i
    · subst hji; rw [upd, if_pos rfl]; exact hm
    · rw [upd, if_neg hji]; rw [upd, if_neg hji] at hL; exact hmk j w w' _ hb (h.made j hL)
theorem Plan.next_val {w0 : World} {c : Nat → Option Value} {mk : Nat → World → Value → Prop} {L : Nat → Bool} {vs : Nat → Value} {w : World} (h : Plan w0 c mk L vs w) (hmk : Keeps mk) {i : Nat} {v : Value} {w' : World} (hc : c i = some v) (hm : mk i w' v) (hb : Below w.heap.size w w') :
    Plan w0 c mk (upd L i true) (upd vs i v) w' := h.next hmk (fun u hu => Option.some.inj (hc.symm.trans hu)) hm hb
theorem Plan.next_mk {w0 : World} {c : Nat → Option Value} {mk : Nat → World → Value → Prop} {L : Nat → Bool} {vs : Nat → Value} {w : World} (h : Plan w0 c mk L vs w) (hmk : Keeps mk) {i : Nat} {v : Value} {w' : World} (hc : c i = none) (hm : mk i w' v) (hb : Below w.heap.size w w') :
    Plan w0 c mk (upd L i true) (upd vs i v) w' := h.next hmk (fun u hu => (nomatch hc.symm.trans hu)) hm hb
theorem Plan.at {w0 : World} {c : Nat → Option Value} {mk : Nat → World → Value → Prop} {L : Nat → Bool} {vs : Nat → Value} {w : World} {a0 a : Act} (h : Plan w0 c mk L vs w) (hF : Fr ops a0 L vs a) (j d : Nat) {v : Value} (hL : L j = true) (hd : dstOf ops j = some d) (hc : c j = some v) : a.tmps[d]? = some v := by
  rw [hF.hit j d hL hd, h.val j v hc hL]
/-- The region, by its list. -/
theorem wp_region_plan {id : Nat} {a : Act} {w : World} (hm : P.follows .mixedOrders = true) (hok : plainOps ops a.tmps.size = true)
    (c : Nat → Option Value) (hgd : guardsOk ops c = true) (mk : Nat → World → Value → Prop) (vs0 : Nat → Value)
    (hs : AllAt (fun i o => ∀ L vs a' w', (∀ e ∈ o.after, Region.binds .any e = true → L e.on = true) → Fr ops a L vs a' → Plan w c mk L vs w' →
      ∀ K : Act → World → Prop, (∀ v w'', Plan w c mk (upd L i true) (upd vs i v) w'' → K (a'.put o.dst v) w'') → Oper.wp P o a' w' K Q) 0 ops.toList)
    (he : ∀ vs w', Plan w c mk (fun j => decide (j < ops.size)) vs w' → Q .normal (finTo ops vs a ops.size) w') :
    (Code.region id ops true).wp P Q a w := by
  refine wp_region_inv hm hok (Plan w c mk) vs0 Plan.start (fun i o L vs a' w' ho hA hF hG => .inl (guard_wanted hgd ho hA hF hG.val)) ?_ he
  intro i o L vs a' w' ho hL hA hF hG _
  have := AllAt.at hs (i := i) (o := o) (by simpa using ho)
  rw [Nat.zero_add] at this
  exact this L vs a' w' hA hF hG
def putL (a : Act) : List (Option Tmp × Value) → Act
  | [] => a
  | x :: l => putL (a.put x.1 x.2) l
theorem putL_snoc (l : List (Option Tmp × Value)) (x : Option Tmp × Value) : ∀ a : Act, putL a (l ++ [x]) = (putL a l).put x.1 x.2 := by
  induction l with
  | nil => intro a; rfl
  | cons y l ih => intro a; rw [List.cons_append, putL, ih, putL]
theorem finTo_eq (vs : Nat → Value) (a : Act) : ∀ n, finTo ops vs a n = putL a ((List.range n).map fun j => (dstOf ops j, vs j))
  | 0 => rfl
  | n + 1 => by rw [List.range_succ, List.map_append, List.map_singleton, putL_snoc, finTo, finTo_eq vs a n]
theorem wp_region_list {id : Nat} {a : Act} {w : World} (hm : P.follows .mixedOrders = true) (hok : plainOps ops a.tmps.size = true)
    (c : Nat → Option Value) (hgd : guardsOk ops c = true) (mk : Nat → World → Value → Prop) (PL : (Nat → Value) → List (Option Tmp × Value)) (hPL : ∀ vs, (List.range ops.size).map (fun j => (dstOf ops j, (c j).getD (vs j))) = PL vs)
    (hs : AllAt (fun i o => ∀ L vs a' w', (∀ e ∈ o.after, Region.binds .any e = true → L e.on = true) → Fr ops a L vs a' → Plan w c mk L vs w' →
      ∀ K : Act → World → Prop, (∀ v w'', Plan w c mk (upd L i true) (upd vs i v) w'' → K (a'.put o.dst v) w'') → Oper.wp P o a' w' K Q) 0 ops.toList)
    (he : ∀ vs w', Below w.heap.size w w' → (∀ j, j < ops.size → mk j w' (vs j)) → Q .normal (putL a (PL vs)) w') :
    (Code.region id ops true).wp P Q a w := by
  refine wp_region_plan hm hok c hgd mk (fun _ => undef) hs (fun vs w' hG => ?_)
  have := he vs w' hG.below (fun j hj => hG.made j (by simp [hj]))
  rw [← hPL] at this
  rw [finTo_eq]
  rw [show ((List.range ops.size).map fun j => (dstOf ops j, vs j)) = (List.range ops.size).map (fun j => (dstOf ops j, (c j).getD (vs j))) from ?_]
  · exact this
  · refine List.map_congr_left (fun j hj => ?_)
    have hj := List.mem_range.1 hj
    cases hc : c j with
    | none => rfl
    | some v => rw [hG.val j v hc (by simp [hj])]; rfl
/- The same, with a condition of one's own on what is made. -/
structure PlanX (w0 : World) (c : Nat → Option Value) (X : (Nat → Bool) → (Nat → Value) → World → Prop) (L : Nat → Bool) (vs : Nat → Value) (w : World) : Prop where
  below : Below w0.heap.size w0 w
  val : ∀ j v, c j = some v → L j = true → vs j = v
  ex : X L vs w
theorem PlanX.next {w0 : World} {c : Nat → Option Value} {X : (Nat → Bool) → (Nat → Value) → World → Prop} {L : Nat → Bool} {vs : Nat → Value} {w : World} (h : PlanX w0 c X L vs w) {i : Nat} {v : Value} {w' : World} (hv : ∀ u, c i = some u → v = u) (hX : X (upd L i true) (upd vs i v) w') (hb : Below w0.heap.size w0 w') :
    PlanX w0 c X (upd L i true) (upd vs i v) w' := by
  refine ⟨hb, fun j u hj hL => ?_, hX⟩
  by_cases hji : j = i
  · subst hji; rw [upd, if_pos rfl]; exact hv u hj
  · rw [upd, if_neg hji]; rw [upd, if_neg hji] at hL; exact h.val j u hj hL
theorem PlanX.next_val {w0 : World} {c : Nat → Option Value} {X : (Nat → Bool) → (Nat → Value) → World → Prop} {L : Nat → Bool} {vs : Nat → Value} {w : World} (h : PlanX w0 c X L vs w) {i : Nat} {v : Value} {w' : World} (hc : c i = some v) (hX : X (upd L i true) (upd vs i v) w') (hb : Below w.heap.size w w') :
    PlanX w0 c X (upd L i true) (upd vs i v) w' := h.next (fun u hu => Option.some.inj (hc.symm.trans hu)) hX (below_next h.below hb)
theorem PlanX.next_mk {w0 : World} {c : Nat → Option Value} {X : (Nat → Bool) → (Nat → Value) → World → Prop} {L : Nat → Bool} {vs : Nat → Value} {w : World} (h : PlanX w0 c X L vs w) {i : Nat} {v : Value} {w' : World} (hc : c i = none) (hX : X (upd L i true) (upd vs i v) w') (hb : Below w0.heap.size w0 w') :
    PlanX w0 c X (upd L i true) (upd vs i v) w' := h.next (fun u hu => (nomatch hc.symm.trans hu)) hX hb
theorem PlanX.at {w0 : World} {c : Nat → Option Value} {X : (Nat → Bool) → (Nat → Value) → World → Prop} {L : Nat → Bool} {vs : Nat → Value} {w : World} {a0 a : Act} (h : PlanX w0 c X L vs w) (hF : Fr ops a0 L vs a) (j d : Nat) {v : Value} (hL : L j = true) (hd : dstOf ops j = some d) (hc : c j = some v) : a.tmps[d]? = some v := by
  rw [hF.hit j d hL hd, h.val j v hc hL]
theorem wp_region_listX {id : Nat} {a : Act} {w : World} (hm : P.follows .mixedOrders = true) (hok : plainOps ops a.tmps.size = true)
    (c : Nat → Option Value) (hgd : guardsOk ops c = true) (X : (Nat → Bool) → (Nat → Value) → World → Prop) (PL : (Nat → Value) → List (Option Tmp × Value)) (hPL : ∀ vs, (List.range ops.size).map (fun j => (dstOf ops j, (c j).getD (vs j))) = PL vs)
    (hX0 : X (fun _ => false) (fun _ => undef) w.drew)
    (hs : AllAt (fun i o => ∀ L vs a' w', L i = false → (∀ e ∈ o.after, Region.binds .any e = true → L e.on = true) → Fr ops a L vs a' → PlanX w c X L vs w' →
      ∀ K : Act → World → Prop, (∀ v w'', PlanX w c X (upd L i true) (upd vs i v) w'' → K (a'.put o.dst v) w'') → Oper.wp P o a' w' K Q) 0 ops.toList)
    (he : ∀ vs w', Below w.heap.size w w' → X (fun j => decide (j < ops.size)) vs w' → Q .normal (putL a (PL vs)) w') :
    (Code.region id ops true).wp P Q a w := by
  refine wp_region_inv hm hok (PlanX w c X) (fun _ => undef) ⟨(Below.refl _ _).drew, fun _ _ _ h => (nomatch h), hX0⟩ (fun i o L vs a' w' ho hA hF hG => .inl (guard_wanted hgd ho hA hF hG.val)) ?_ (fun vs w' hG => ?_)
  · intro i o L vs a' w' ho hL hA hF hG _
    have := AllAt.at hs (i := i) (o := o) (by simpa using ho)
    rw [Nat.zero_add] at this
    exact this L vs a' w' hL hA hF hG
  · have := he vs w' hG.below hG.ex
    rw [← hPL] at this
    rw [finTo_eq]
    rw [show ((List.range ops.size).map fun j => (dstOf ops j, vs j)) = (List.range ops.size).map (fun j => (dstOf ops j, (c j).getD (vs j))) from ?_]
    · exact this
    · refine List.map_congr_left (fun j hj => ?_)
      have hj := List.mem_range.1 hj
      cases hc : c j with
      | none => rfl
      | some v => rw [hG.val j v hc (by simp [hj])]; rfl
/- Some are passed over: their guards are values that are known, and say so. -/
def guardsSkip (ops : Array Oper) (c : Nat → Option Value) (sk : Nat → Bool) : Bool :=
  (List.range ops.size).all fun i => match ops[i]? with
    | some o => match o.guard with
      | none => !sk i
      | some (g, want) => (o.after.any fun e => e.on == g && Region.binds .any e) && (dstOf ops g).isSome && ((match c g with | some (.bool b) => (b == want) != sk i | _ => false) || (sk g && sk i))
    | none => false
theorem guard_skip {c : Nat → Option Value} {sk : Nat → Bool} (hu : ∀ i, sk i = true → c i = some undef) {i : Nat} {o : Oper} {L : Nat → Bool} {vs : Nat → Value} {a0 a : Act} (hg : guardsSkip ops c sk = true) (ho : ops[i]? = some o) (hA : ∀ e ∈ o.after, Region.binds .any e = true → L e.on = true) (hF : Fr ops a0 L vs a) (hv : ∀ j v, c j = some v → L j = true → vs j = v) : Region.wanted o (yielded ops a.tmps) = !sk i := by
  have hi : i < ops.size := by
    by_cases h : i < ops.size
    · exact h
    · rw [Array.getElem?_eq_none (by omega)] at ho; cases ho
  have h := List.all_eq_true.1 hg i (List.mem_range.2 hi)
  rw [ho] at h
  simp only at h
  unfold Region.wanted
  cases hgd : o.guard with
  | none => rw [hgd] at h; simpa using h.symm
  | some gw =>
    obtain ⟨g, want⟩ := gw
    rw [hgd] at h
    simp only [Bool.and_eq_true, Bool.or_eq_true] at h
    obtain ⟨⟨h1, h2⟩, h3⟩ := h
    obtain ⟨k, hk, h4⟩ := Array.any_eq_true.1 h1
    simp only [Bool.and_eq_true, beq_iff_eq] at h4
    have hLg : L g = true := by rw [← h4.1]; exact hA _ (Array.getElem_mem hk) h4.2
    obtain ⟨d, hd⟩ := Option.isSome_iff_exists.1 h2
    have ht := hF.hit g d hLg hd
    have hd2 : (ops[g]?).bind (·.dst) = some d := hd
    simp only
    rcases h3 with h3 | ⟨h3, h5⟩
    · cases hc : c g with
      | none => rw [hc] at h3; simp at h3
      | some v =>
        rw [hc] at h3
        cases v with
        | bool b =>
          rw [hv g _ hc hLg] at ht
          have hb : ((b == want) != sk i) = true := by simpa using h3
          unfold yielded
          rw [hd2]
          simp only [Option.bind_some, ht]
          cases b <;> cases want <;> cases hs : sk i <;> simp_all
        | _ => simp at h3
    · rw [hv g _ (hu g h3) hLg] at ht
      unfold yielded
      rw [hd2]
      simp only [Option.bind_some, ht, h5]
      rfl
theorem wp_region_skip {id : Nat} {a : Act} {w : World} (hm : P.follows .mixedOrders = true) (hok : plainOps ops a.tmps.size = true)
    (c : Nat → Option Value) (sk : Nat → Bool) (hgd : guardsSkip ops c sk = true) (hu : ∀ i, sk i = true → c i = some undef) (mk : Nat → World → Value → Prop) (hmk : Keeps mk) (hmu : ∀ i w, sk i = true → mk i w undef) (PL : (Nat → Value) → List (Option Tmp × Value)) (hPL : ∀ vs, (List.range ops.size).map (fun j => (dstOf ops j, (c j).getD (vs j))) = PL vs)
    (hs : AllAt (fun i o => sk i = false → ∀ L vs a' w', (∀ e ∈ o.after, Region.binds .any e = true → L e.on = true) → Fr ops a L vs a' → Plan w c mk L vs w' →
      ∀ K : Act → World → Prop, (∀ v w'', Plan w c mk (upd L i true) (upd vs i v) w'' → K (a'.put o.dst v) w'') → Oper.wp P o a' w' K Q) 0 ops.toList)
    (he : ∀ vs w', Below w.heap.size w w' → (∀ j, j < ops.size → mk j w' (vs j)) → Q .normal (putL a (PL vs)) w') :
    (Code.region id ops true).wp P Q a w := by
  refine wp_region_inv hm hok (Plan w c mk) (fun _ => undef) Plan.start (fun i o L vs a' w' ho hA hF hG => ?_) ?_ (fun vs w' hG => ?_)
  · have hw := guard_skip hu hgd ho hA hF hG.val
    cases hsk : sk i with
    | false => left; rw [hw, hsk]; rfl
    | true => right; exact ⟨by rw [hw, hsk]; rfl, hG.next_val hmk (hu i hsk) (hmu i w' hsk) (Below.refl _ _)⟩
  · intro i o L vs a' w' ho hL hA hF hG hwt
    have hw := guard_skip hu hgd ho hA hF hG.val
    rw [hwt] at hw
    have := AllAt.at hs (i := i) (o := o) (by simpa using ho)
    rw [Nat.zero_add] at this
    exact this (by cases hsk : sk i with | false => rfl | true => rw [hsk] at hw; cases hw) L vs a' w' hA hF hG
  · have := he vs w' hG.below (fun j hj => hG.made j (by simp [hj]))
    rw [← hPL] at this
    rw [finTo_eq]
    rw [show ((List.range ops.size).map fun j => (dstOf ops j, vs j)) = (List.range ops.size).map (fun j => (dstOf ops j, (c j).getD (vs j))) from ?_]
    · exact this
    · refine List.map_congr_left (fun j hj => ?_)
      have hj := List.mem_range.1 hj
      cases hc : c j with
      | none => rfl
      | some v => rw [hG.val j v hc (by simp [hj])]; rfl
/- The same for a region that does not draw: its operations as they stand, each by its small goal. -/
theorem upd_next (k : Nat) : upd (fun j => decide (j < k)) k true = fun j => decide (j < k + 1) := by
  funext j
  unfold upd
  by_cases hj : j = k
  · rw [if_pos hj]; simp [hj]
  · rw [if_neg hj]; exact decide_eq_decide.2 (by omega)
theorem wpOps_inv {a0 : Act} (hok : plainOps ops a0.tmps.size = true) (G : (Nat → Bool) → (Nat → Value) → World → Prop)
    (hwt : ∀ (i : Nat) (o : Oper) (L : Nat → Bool) (vs : Nat → Value) (a' : Act) (w' : World), ops[i]? = some o → (∀ e ∈ o.after, Region.binds .any e = true → L e.on = true) → Fr ops a0 L vs a' → G L vs w' → Region.wanted o (yielded ops a'.tmps) = true ∨ (Region.wanted o (yielded ops a'.tmps) = false ∧ G (upd L i true) (upd vs i undef) w'))
    (hs : ∀ i o L vs a' w', ops[i]? = some o → L i = false → (∀ e ∈ o.after, Region.binds .any e = true → L e.on = true) → Fr ops a0 L vs a' → G L vs w' → Region.wanted o (yielded ops a'.tmps) = true →
      ∀ K : Act → World → Prop, (∀ v w'', G (upd L i true) (upd vs i v) w'' → K (a'.put o.dst v) w'') → Oper.wp P o a' w' K Q)
    (he : ∀ vs w', G (fun j => decide (j < ops.size)) vs w' → Q .normal (finTo ops vs a0 ops.size) w') :
    ∀ m k, k + m = ops.size → ∀ vs a w, Fr ops a0 (fun j => decide (j < k)) vs a → G (fun j => decide (j < k)) vs w → wpOps P ops Q ((List.range ops.size).drop k) a w
  | 0, k, hk, vs, a, w, hF, hG => by
    obtain rfl : k = ops.size := by omega
    rw [List.drop_of_length_le (by simp)]
    have := hF.unique (Fr.fin (vs := vs) hok rfl ops.size (Nat.le_refl _))
    rw [this]
    exact he vs w hG
  | m + 1, k, hk, vs, a, w, hF, hG => by
    have hlt : k < ops.size := by omega
    rw [List.drop_eq_getElem_cons (by simpa using hlt), List.getElem_range]
    have ho : ops[k]? = some ops[k] := Array.getElem?_eq_getElem hlt
    have hA : ∀ e ∈ (ops[k]).after, Region.binds .any e = true → (fun j => decide (j < k)) e.on = true := fun e he hb => by simpa using (plain_at hok ho).2.1 e he hb
    have ih := wpOps_inv hok G hwt hs he m (k + 1) (by omega)
    unfold wpOps
    simp only [ho]
    rcases hwt k _ _ vs a w ho hA hF hG with hw | ⟨hw, hG2⟩
    · rw [if_pos hw]
      left
      refine hs k _ _ vs a w ho (by simp) hA hF hG hw _ (fun v w'' hG3 => ?_)
      have hF2 := hF.put hok rfl ho (by simp) v
      rw [upd_next] at hF2 hG3
      exact ih _ _ _ hF2 hG3
    · rw [if_neg (by rw [hw]; exact Bool.false_ne_true)]
      have hF2 := hF.put hok rfl ho (by simp) undef
      rw [upd_next] at hF2 hG2
      exact ih _ _ _ hF2 hG2
theorem Plan.begin {w0 : World} {c : Nat → Option Value} {mk : Nat → World → Value → Prop} {vs : Nat → Value} : Plan w0 c mk (fun j => decide (j < 0)) vs w0 :=
  ⟨Below.refl _ _, fun j _ _ h => absurd (of_decide_eq_true h) (Nat.not_lt_zero j), fun j h => absurd (of_decide_eq_true h) (Nat.not_lt_zero j)⟩
theorem wp_region_still {id : Nat} {a : Act} {w : World} (hok : plainOps ops a.tmps.size = true)
    (c : Nat → Option Value) (sk : Nat → Bool) (hgd : guardsSkip ops c sk = true) (hu : ∀ i, sk i = true → c i = some undef) (mk : Nat → World → Value → Prop) (hmk : Keeps mk) (hmu : ∀ i w, sk i = true → mk i w undef) (PL : (Nat → Value) → List (Option Tmp × Value)) (hPL : ∀ vs, (List.range ops.size).map (fun j => (dstOf ops j, (c j).getD (vs j))) = PL vs)
    (hs : AllAt (fun i o => sk i = false → ∀ L vs a' w', (∀ e ∈ o.after, Region.binds .any e = true → L e.on = true) → Fr ops a L vs a' → Plan w c mk L vs w' →
      ∀ K : Act → World → Prop, (∀ v w'', Plan w c mk (upd L i true) (upd vs i v) w'' → K (a'.put o.dst v) w'') → Oper.wp P o a' w' K Q) 0 ops.toList)
    (he : ∀ vs w', Below w.heap.size w w' → (∀ j, j < ops.size → mk j w' (vs j)) → Q .normal (putL a (PL vs)) w') :
    (Code.region id ops false).wp P Q a w := by
  refine wp_region ?_
  have key := wpOps_inv (a0 := a) hok (Plan w c mk) (Q := Q) (P := P) (fun i o L vs a' w' ho hA hF hG => ?_) ?_ (fun vs w' hG => ?_) ops.size 0 (by omega) (fun _ => undef) a w ?_ Plan.begin
  · simpa using key
  · have hw := guard_skip hu hgd ho hA hF hG.val
    cases hsk : sk i with
    | false => left; rw [hw, hsk]; rfl
    | true => right; exact ⟨by rw [hw, hsk]; rfl, hG.next_val hmk (hu i hsk) (hmu i w' hsk) (Below.refl _ _)⟩
  · intro i o L vs a' w' ho hL hA hF hG hwt
    have hw := guard_skip hu hgd ho hA hF hG.val
    rw [hwt] at hw
    have := AllAt.at hs (i := i) (o := o) (by simpa using ho)
    rw [Nat.zero_add] at this
    exact this (by cases hsk : sk i with | false => rfl | true => rw [hsk] at hw; cases hw) L vs a' w' hA hF hG
  · have := he vs w' hG.below (fun j hj => hG.made j (by simp [hj]))
    rw [← hPL] at this
    rw [finTo_eq]
    rw [show ((List.range ops.size).map fun j => (dstOf ops j, vs j)) = (List.range ops.size).map (fun j => (dstOf ops j, (c j).getD (vs j))) from ?_]
    · exact this
    · refine List.map_congr_left (fun j hj => ?_)
      have hj := List.mem_range.1 hj
      cases hc : c j with
      | none => rfl
      | some v => rw [hG.val j v hc (by simp [hj])]; rfl
  · have : (fun j : Nat => decide (j < 0)) = fun _ => false := by funext j; simp
    rw [this]
    exact Fr.start
/- A block that operation 'ia' makes and operation 'is' fills, within a region (for wp_region_listX). -/
def stX (ia si B : Nat) (F Z : Array Value) (t : TypeId) (L : Nat → Bool) (vs : Nat → Value) (w : World) : Prop :=
  (L si = true → L ia = true) ∧ (L ia = true → ∃ q, vs ia = .pointer (some ⟨q, 0, none⟩) ∧ B ≤ q ∧ w.heap[q]? = some (.cells (if L si = true then F else Z) t))
theorem stX_step {ia si B : Nat} {F Z : Array Value} {t : TypeId} {L : Nat → Bool} {vs : Nat → Value} {w w' : World} {i : Nat} {v : Value} (h : stX ia si B F Z t L vs w) (ha : i ≠ ia) (hs : i ≠ si) (hb : Below w.heap.size w w') : stX ia si B F Z t (upd L i true) (upd vs i v) w' := by
  unfold stX
  rw [upd, upd, upd, if_neg (Ne.symm ha), if_neg (Ne.symm hs), if_neg (Ne.symm ha)]
  refine ⟨h.1, fun hL => ?_⟩
  obtain ⟨q, h1, h2, h3⟩ := h.2 hL
  have hq : q < w.heap.size := by
    by_cases hlt : q < w.heap.size
    · exact hlt
    · rw [Array.getElem?_eq_none (by omega)] at h3; cases h3
  exact ⟨q, h1, h2, (hb.block q hq).trans h3⟩
theorem stX_alloc {ia si B : Nat} {F Z : Array Value} {t : TypeId} {L : Nat → Bool} {vs : Nat → Value} {w : World} (h : stX ia si B F Z t L vs w) (hne : ia ≠ si) (hL : L ia = false) (hB : B ≤ w.heap.size) : stX ia si B F Z t (upd L ia true) (upd vs ia (.pointer (some ⟨w.heap.size, 0, none⟩))) (w.alloc (.cells Z t)) := by
  have hs : ¬ L si = true := fun e => by rw [h.1 e] at hL; cases hL
  unfold stX
  rw [upd, upd, upd, if_pos rfl, if_neg (Ne.symm hne), if_pos rfl]
  exact ⟨fun _ => rfl, fun _ => ⟨_, rfl, hB, by rw [if_neg hs]; exact heap_alloc_new w _⟩⟩
theorem stX_store {ia si B : Nat} {F Z : Array Value} {t : TypeId} {L : Nat → Bool} {vs : Nat → Value} {w : World} {q : Nat} {v : Value} (hne : ia ≠ si) (hq : vs ia = .pointer (some ⟨q, 0, none⟩)) (ha : L ia = true) (hqb : B ≤ q) (hw : w.heap[q]? = some (.cells F t)) : stX ia si B F Z t (upd L si true) (upd vs si v) w := by
  unfold stX
  rw [upd, upd, upd, if_pos rfl, if_neg hne, if_neg hne]
  exact ⟨fun _ => ha, fun _ => ⟨q, hq, hqb, by rw [if_pos rfl]; exact hw⟩⟩
end
end Go.Proofs.YtbjbnipjeehaoaaGreatDoor
namespace Go.Proofs.YtbjbnipjeehaoaaGreatDoor
open Go.RowKit Go.Proofs.YtbjbnipjeehaoaaGreatDoorW.PrintWords
theorem KPT : Keeps (fun _ _ _ => True) := fun _ _ _ _ _ _ => trivial
/-- An entry that has room in its header. -/
structure NoRecs (e : En) : Prop where
  short : (H.splitT e.path).2.2 = true
  link : e.target.length ≤ 100
  uid : e.uid ≤ 2097151
  gid : e.gid ≤ 2097151
  early : lateT e.sec e.nano = false
  time : S.mayT e.sec e.nano = true
set_option maxHeartbeats 40000000 in
set_option maxRecDepth 100000 in
theorem recs_none (e : En) (w : World) (hG : Good w) (hf : EnFits e) (hn : NoRecs e) :
    Calls Tryz.prog 15 #[.agg (enCells e)] w fun e w' => e = .returned (.slice none 0 0) ∧ Below w.heap.size w w' := by
  have HLONG := Aside0.mk (fun W => long_any e.path hf.path W)
  rw [hn.short] at HLONG
  rw [show (!true) = false from rfl] at HLONG
  have HT := Aside0.mk (show ¬ (100 : Int) < e.target.length by have := hn.link; omega)
  have HU := Aside0.mk (show ¬ (2097151 : Int) < e.uid by have := hn.uid; omega)
  have HGI := Aside0.mk (show ¬ (2097151 : Int) < e.gid by have := hn.gid; omega)
  have HLATE := Aside0.mk (fun W => late_any e.sec e.nano W)
  rw [hn.early] at HLATE
  obtain ⟨IU, hIU⟩ : ∃ x, Lib.itoa e.uid = x := ⟨_, rfl⟩
  obtain ⟨IG, hIG⟩ : ∃ x, Lib.itoa e.gid = x := ⟨_, rfl⟩
  obtain ⟨TT, hTT⟩ : ∃ x, S.textT e.sec e.nano = x := ⟨_, rfl⟩
  have HIU := Aside0.mk (fun W hGW => itoa_any e.uid W hGW hf.uid.1 hf.uid.2)
  have HIG := Aside0.mk (fun W hGW => itoa_any e.gid W hGW hf.gid.1 hf.gid.2)
  have HTT := Aside0.mk (fun W hGW => S.text_any e.sec e.nano W hGW hn.time)
  rw [hIU] at HIU
  rw [hIG] at HIG
  rw [hTT] at HTT
  have HG := Aside0.mk hG
  have E0 := heap_alloc_new w (.cells (enCells e) 33)
  have B0 := below_alloc (Below.refl w.heap.size w) (.cells (enCells e) 33)
  clear hG hf hn hIU hIG hTT
  obtain ⟨path, kind, mode, uid, gid, sec, nano, data, target, major, minor⟩ := e
  unfold enCells at *
  simp only at *
  have s1 : (w.alloc (.cells #[.string (mkS path), .int .i64 kind, .int .i64 mode, .int .i64 uid, .int .i64 gid, .int .i64 sec, .int .i64 nano, .slice none 0 0, .slice none 0 0, .slice none 0 0, .int .i64 0, .int .u64 0, .int .u64 0, .bool false, .int .i64 0, .int .i64 0, .string (mkS data), .string (mkS target), .int .i64 major, .int .i64 minor] 33)).heap.size = w.heap.size + 1 := by simp
  have L1 := heap_alloc_new (w.alloc (.cells #[.string (mkS path), .int .i64 kind, .int .i64 mode, .int .i64 uid, .int .i64 gid, .int .i64 sec, .int .i64 nano, .slice none 0 0, .slice none 0 0, .slice none 0 0, .int .i64 0, .int .u64 0, .int .u64 0, .bool false, .int .i64 0, .int .i64 0, .string (mkS data), .string (mkS target), .int .i64 major, .int .i64 minor] 33)) (.cells #[.slice none 0 0] 78)
  have E1 := blk_alloc E0 (.cells #[.slice none 0 0] 78)
  have B1 := below_alloc B0 (.cells #[.slice none 0 0] 78)
  go_enter Tryz.func15, Tryz.ntmps15
  go_wp2_with fail
  have M2 := heap_alloc_new ((w.alloc (.cells #[.string (mkS path), .int .i64 kind, .int .i64 mode, .int .i64 uid, .int .i64 gid, .int .i64 sec, .int .i64 nano, .slice none 0 0, .slice none 0 0, .slice none 0 0, .int .i64 0, .int .u64 0, .int .u64 0, .bool false, .int .i64 0, .int .i64 0, .string (mkS data), .string (mkS target), .int .i64 major, .int .i64 minor] 33)).alloc (.cells #[.slice none 0 0] 78)) (.cells #[.int .i64 mode, .int .i64 uid, .int .i64 gid, .int .i64 sec, .int .i64 nano, .slice none 0 0, .slice none 0 0, .slice none 0 0, .int .i64 0, .int .u64 0, .int .u64 0, .bool false, .int .i64 0, .int .i64 0] 31)
  have L2 := blk_alloc L1 (.cells #[.int .i64 mode, .int .i64 uid, .int .i64 gid, .int .i64 sec, .int .i64 nano, .slice none 0 0, .slice none 0 0, .slice none 0 0, .int .i64 0, .int .u64 0, .int .u64 0, .bool false, .int .i64 0, .int .i64 0] 31)
  have E2 := blk_alloc E1 (.cells #[.int .i64 mode, .int .i64 uid, .int .i64 gid, .int .i64 sec, .int .i64 nano, .slice none 0 0, .slice none 0 0, .slice none 0 0, .int .i64 0, .int .u64 0, .int .u64 0, .bool false, .int .i64 0, .int .i64 0] 31)
  have B2 := below_alloc B1 (.cells #[.int .i64 mode, .int .i64 uid, .int .i64 gid, .int .i64 sec, .int .i64 nano, .slice none 0 0, .slice none 0 0, .slice none 0 0, .int .i64 0, .int .u64 0, .int .u64 0, .bool false, .int .i64 0, .int .i64 0] 31)
  have s2 : ((w.alloc (.cells #[.string (mkS path), .int .i64 kind, .int .i64 mode, .int .i64 uid, .int .i64 gid, .int .i64 sec, .int .i64 nano, .slice none 0 0, .slice none 0 0, .slice none 0 0, .int .i64 0, .int .u64 0, .int .u64 0, .bool false, .int .i64 0, .int .i64 0, .string (mkS data), .string (mkS target), .int .i64 major, .int .i64 minor] 33)).alloc (.cells #[.slice none 0 0] 78)).heap.size = w.heap.size + 1 + 1 := by simp
  rw [s2] at M2
  rw [s1] at L2
  obtain ⟨W, hW⟩ : ∃ W, W = ((w.alloc (.cells #[.string (mkS path), .int .i64 kind, .int .i64 mode, .int .i64 uid, .int .i64 gid, .int .i64 sec, .int .i64 nano, .slice none 0 0, .slice none 0 0, .slice none 0 0, .int .i64 0, .int .u64 0, .int .u64 0, .bool false, .int .i64 0, .int .i64 0, .string (mkS data), .string (mkS target), .int .i64 major, .int .i64 minor] 33)).alloc (.cells #[.slice none 0 0] 78)).alloc (.cells #[.int .i64 mode, .int .i64 uid, .int .i64 gid, .int .i64 sec, .int .i64 nano, .slice none 0 0, .slice none 0 0, .slice none 0 0, .int .i64 0, .int .u64 0, .int .u64 0, .bool false, .int .i64 0, .int .i64 0] 31) := ⟨_, rfl⟩
  rw [← hW] at M2 L2 E2 B2 ⊢
  clear hW s1 s2 L1 E1 B1 E0 B0
  have HE := Aside0.mk E2
  have HL := Aside0.mk L2
  have HM := Aside0.mk M2
  have BW := Aside0.mk B2
  clear E2 L2 M2 B2
  generalize hpm : w.heap.size + 1 + 1 = pm at HM ⊢
  generalize hpl : w.heap.size + 1 = pl at HL ⊢
  obtain ⟨pe, hpe⟩ : ∃ pe, w.heap.size = pe := ⟨_, rfl⟩
  rw [hpe] at HE
  rw [show w.heap.size = pe from hpe]
  clear hpm hpl
  have BE := Aside0.mk (fun (W' : World) (hb : Below W.heap.size W W') => below_next BW.out hb)
  have HGB := Aside0.mk (fun (W' : World) (hb : Below W.heap.size W W') => HG.out.below (BE.out W' hb))
  refine wp_region_list (by kernel_rfl) (by kernel_rfl) (fun j => ([some (.pointer (some ⟨pe, 0, none⟩)), some (.string (mkS path)), some (.bool false), some (.pointer (some ⟨pe, 17, none⟩)), some (.string (mkS target)), some (.int .i64 (target.length : Int)), some (.bool false), some (.bool false), some (.bool false)] : List (Option Value)).getD j none) (by kernel_rfl) (fun _ _ _ => True) (fun vs => [(some 11, .pointer (some ⟨pe, 0, none⟩)), (some 12, .string (mkS path)), (some 13, .bool false), (some 14, .pointer (some ⟨pe, 17, none⟩)), (some 15, .string (mkS target)), (some 16, .int .i64 (target.length : Int)), (some 17, .bool false), (some 5, .bool false), (some 6, .bool false)]) (fun _ => by kernel_rfl) (AllAt.cons ?_ (AllAt.cons ?_ (AllAt.cons ?_ (AllAt.cons ?_ (AllAt.cons ?_ (AllAt.cons ?_ (AllAt.cons ?_ (AllAt.cons ?_ (AllAt.cons ?_ (AllAt.nil)))))))))) ?_
  · -- 0: addr
    intro L vs a' w' hA hF hG K hK
    have e1 : a'.tmps[1]? = some (.pointer (some ⟨pe, 0, none⟩)) := hF.old rfl (by kernel_rfl)
    clear hF hA
    go_simp
    exact hK _ _ (hG.next_val KPT rfl trivial (Below.refl _ _))
  · -- 1: load
    intro L vs a' w' hA hF hG K hK
    have e11 : a'.tmps[11]? = some (.pointer (some ⟨pe, 0, none⟩)) := hG.at hF 0 11 (hA ⟨0, .data⟩ (by simp) rfl) rfl rfl
    have hblk := (hG.below.block pe (blk_lt HE.out)).trans HE.out
    have c0 : w'.cell? ⟨pe, 0, none⟩ = some (.string (mkS path)) := blk_cell hblk 0
    have lg := blk_lt hblk
    clear hblk
    clear hF hA
    go_simp
    exact hK _ _ (hG.next_val KPT rfl trivial (Below.refl _ _))
  · -- 2: call
    intro L vs a' w' hA hF hG K hK
    have e12 : a'.tmps[12]? = some (.string (mkS path)) := hG.at hF 1 12 (hA ⟨1, .data⟩ (by simp) rfl) rfl rfl
    have HGW := Aside0.mk (HGB.out _ hG.below)
    clear hF hA
    go_simp
    refine (HLONG.out _).mono ?_
    rintro e w2 ⟨rfl, hb⟩
    exact hK _ _ (hG.next_val KPT rfl trivial hb)
  · -- 3: addr
    intro L vs a' w' hA hF hG K hK
    have e1 : a'.tmps[1]? = some (.pointer (some ⟨pe, 0, none⟩)) := hF.old rfl (by kernel_rfl)
    clear hF hA
    go_simp
    exact hK _ _ (hG.next_val KPT rfl trivial (Below.refl _ _))
  · -- 4: load
    intro L vs a' w' hA hF hG K hK
    have e14 : a'.tmps[14]? = some (.pointer (some ⟨pe, 17, none⟩)) := hG.at hF 3 14 (hA ⟨3, .data⟩ (by simp) rfl) rfl rfl
    have hblk := (hG.below.block pe (blk_lt HE.out)).trans HE.out
    have c17 : w'.cell? ⟨pe, 17, none⟩ = some (.string (mkS target)) := blk_cell hblk 17
    have lg := blk_lt hblk
    clear hblk
    clear hF hA
    go_simp
    exact hK _ _ (hG.next_val KPT rfl trivial (Below.refl _ _))
  · -- 5: plain
    intro L vs a' w' hA hF hG K hK
    have e15 : a'.tmps[15]? = some (.string (mkS target)) := hG.at hF 4 15 (hA ⟨4, .data⟩ (by simp) rfl) rfl rfl
    clear hF hA
    go_simp
    exact hK _ _ (hG.next_val KPT rfl trivial (Below.refl _ _))
  · -- 6: plain
    intro L vs a' w' hA hF hG K hK
    have e16 : a'.tmps[16]? = some (.int .i64 (target.length : Int)) := hG.at hF 5 16 (hA ⟨5, .data⟩ (by simp) rfl) rfl rfl
    have h1 : ¬ (100 : Int) < target.length := Int.not_lt.2 HT.out
    clear hF hA
    go_simp
    exact hK _ _ (hG.next_val KPT rfl trivial (Below.refl _ _))
  · -- 7: plain
    intro L vs a' w' hA hF hG K hK
    have e13 : a'.tmps[13]? = some (.bool false) := hG.at hF 2 13 (hA ⟨2, .data⟩ (by simp) rfl) rfl rfl
    clear hF hA
    go_simp
    exact hK _ _ (hG.next_val KPT rfl trivial (Below.refl _ _))
  · -- 8: plain
    intro L vs a' w' hA hF hG K hK
    have e17 : a'.tmps[17]? = some (.bool false) := hG.at hF 6 17 (hA ⟨6, .data⟩ (by simp) rfl) rfl rfl
    clear hF hA
    go_simp
    exact hK _ _ (hG.next_val KPT rfl trivial (Below.refl _ _))
  intro vs W_1 hB _
  simp only [putL, Act.put, List.setIfInBounds_toArray, List.set_cons_zero, List.set_cons_succ]
  replace HE := Aside0.mk ((hB.block pe (blk_lt HE.out)).trans HE.out)
  replace HM := Aside0.mk ((hB.block pm (blk_lt HM.out)).trans HM.out)
  replace HL := Aside0.mk ((hB.block pl (blk_lt HL.out)).trans HL.out)
  replace BW := Aside0.mk (BE.out _ hB)
  clear hB HGB BE
  clear W
  have BE := Aside0.mk (fun (W' : World) (hb : Below W_1.heap.size W_1 W') => below_next BW.out hb)
  have HGB := Aside0.mk (fun (W' : World) (hb : Below W_1.heap.size W_1 W') => HG.out.below (BE.out W' hb))
  have x0 : W_1.cell? ⟨pe, 0, none⟩ = some (.string (mkS path)) := blk_cell HE.out 0
  have x17 : W_1.cell? ⟨pe, 17, none⟩ = some (.string (mkS target)) := blk_cell HE.out 17
  go_wp2_with fail
  refine (add_not pl _ _ _).mono ?_
  rintro e w2 ⟨rfl, hw⟩
  rw [hw]
  clear hw w2
  go_wp2_with fail
  refine (add_not pl _ _ _).mono ?_
  rintro e w2 ⟨rfl, hw⟩
  rw [hw]
  clear hw w2
  go_wp2_with fail
  refine (add_not pl _ _ _).mono ?_
  rintro e w2 ⟨rfl, hw⟩
  rw [hw]
  clear hw w2
  go_wp2_with fail
  clear x0 x17
  refine wp_region_list (by kernel_rfl) (by kernel_rfl) (fun j => ([some (.pointer (some ⟨pl, 0, none⟩)), some (.pointer (some ⟨pm, 1, none⟩)), some (.int .i64 uid), some (.bool false), some (.pointer (some ⟨pm, 1, none⟩)), some (.int .i64 uid), some (.string (mkS IU)), some (.tuple #[])] : List (Option Value)).getD j none) (by kernel_rfl) (fun _ _ _ => True) (fun vs => [(some 46, .pointer (some ⟨pl, 0, none⟩)), (some 47, .pointer (some ⟨pm, 1, none⟩)), (some 48, .int .i64 uid), (some 49, .bool false), (some 50, .pointer (some ⟨pm, 1, none⟩)), (some 51, .int .i64 uid), (some 52, .string (mkS IU)), (some 53, .tuple #[])]) (fun _ => by kernel_rfl) (AllAt.cons ?_ (AllAt.cons ?_ (AllAt.cons ?_ (AllAt.cons ?_ (AllAt.cons ?_ (AllAt.cons ?_ (AllAt.cons ?_ (AllAt.cons ?_ (AllAt.nil))))))))) ?_
  · -- 0: var
    intro L vs a' w' hA hF hG K hK
    have e4 : a'.tmps[4]? = some (.pointer (some ⟨pl, 0, none⟩)) := hF.old rfl (by kernel_rfl)
    clear hF hA
    go_simp
    exact hK _ _ (hG.next_val KPT rfl trivial (Below.refl _ _))
  · -- 1: addr
    intro L vs a' w' hA hF hG K hK
    have e3 : a'.tmps[3]? = some (.pointer (some ⟨pm, 0, none⟩)) := hF.old rfl (by kernel_rfl)
    clear hF hA
    go_simp
    exact hK _ _ (hG.next_val KPT rfl trivial (Below.refl _ _))
  · -- 2: load
    intro L vs a' w' hA hF hG K hK
    have e47 : a'.tmps[47]? = some (.pointer (some ⟨pm, 1, none⟩)) := hG.at hF 1 47 (hA ⟨1, .data⟩ (by simp) rfl) rfl rfl
    have hblk := (hG.below.block pm (blk_lt HM.out)).trans HM.out
    have c1 : w'.cell? ⟨pm, 1, none⟩ = some (.int .i64 uid) := blk_cell hblk 1
    have lg := blk_lt hblk
    clear hblk
    clear hF hA
    go_simp
    exact hK _ _ (hG.next_val KPT rfl trivial (Below.refl _ _))
  · -- 3: plain
    intro L vs a' w' hA hF hG K hK
    have e48 : a'.tmps[48]? = some (.int .i64 uid) := hG.at hF 2 48 (hA ⟨2, .data⟩ (by simp) rfl) rfl rfl
    have h1 : ¬ (2097151 : Int) <  uid := Int.not_lt.2 HU.out
    clear hF hA
    go_simp
    exact hK _ _ (hG.next_val KPT rfl trivial (Below.refl _ _))
  · -- 4: addr
    intro L vs a' w' hA hF hG K hK
    have e3 : a'.tmps[3]? = some (.pointer (some ⟨pm, 0, none⟩)) := hF.old rfl (by kernel_rfl)
    clear hF hA
    go_simp
    exact hK _ _ (hG.next_val KPT rfl trivial (Below.refl _ _))
  · -- 5: load
    intro L vs a' w' hA hF hG K hK
    have e50 : a'.tmps[50]? = some (.pointer (some ⟨pm, 1, none⟩)) := hG.at hF 4 50 (hA ⟨4, .data⟩ (by simp) rfl) rfl rfl
    have hblk := (hG.below.block pm (blk_lt HM.out)).trans HM.out
    have c1 : w'.cell? ⟨pm, 1, none⟩ = some (.int .i64 uid) := blk_cell hblk 1
    have lg := blk_lt hblk
    clear hblk
    clear hF hA
    go_simp
    exact hK _ _ (hG.next_val KPT rfl trivial (Below.refl _ _))
  · -- 6: call
    intro L vs a' w' hA hF hG K hK
    have e51 : a'.tmps[51]? = some (.int .i64 uid) := hG.at hF 5 51 (hA ⟨5, .data⟩ (by simp) rfl) rfl rfl
    have HGW := Aside0.mk (HGB.out _ hG.below)
    clear hF hA
    go_simp
    refine (HIU.out _ HGW.out).mono ?_
    rintro e w2 ⟨rfl, hb⟩
    exact hK _ _ (hG.next_val KPT rfl trivial hb)
  · -- 7: call
    intro L vs a' w' hA hF hG K hK
    have e46 : a'.tmps[46]? = some (.pointer (some ⟨pl, 0, none⟩)) := hG.at hF 0 46 (hA ⟨0, .data⟩ (by simp) rfl) rfl rfl
    have e49 : a'.tmps[49]? = some (.bool false) := hG.at hF 3 49 (hA ⟨3, .data⟩ (by simp) rfl) rfl rfl
    have e52 : a'.tmps[52]? = some (.string (mkS IU)) := hG.at hF 6 52 (hA ⟨6, .data⟩ (by simp) rfl) rfl rfl
    have HGW := Aside0.mk (HGB.out _ hG.below)
    clear hF hA
    go_simp
    refine (add_not pl _ _ _).mono ?_
    rintro e w2 ⟨rfl, rfl⟩
    exact hK _ _ (hG.next_val KPT rfl trivial (Below.refl _ _))
  intro vs W_2 hB _
  simp only [putL, Act.put, List.setIfInBounds_toArray, List.set_cons_zero, List.set_cons_succ]
  replace HE := Aside0.mk ((hB.block pe (blk_lt HE.out)).trans HE.out)
  replace HM := Aside0.mk ((hB.block pm (blk_lt HM.out)).trans HM.out)
  replace HL := Aside0.mk ((hB.block pl (blk_lt HL.out)).trans HL.out)
  replace BW := Aside0.mk (BE.out _ hB)
  clear hB HGB BE
  clear W_1
  have BE := Aside0.mk (fun (W' : World) (hb : Below W_2.heap.size W_2 W') => below_next BW.out hb)
  have HGB := Aside0.mk (fun (W' : World) (hb : Below W_2.heap.size W_2 W') => HG.out.below (BE.out W' hb))
  go_wp2_with fail
  refine wp_region_list (by kernel_rfl) (by kernel_rfl) (fun j => ([some (.pointer (some ⟨pl, 0, none⟩)), some (.pointer (some ⟨pm, 2, none⟩)), some (.int .i64 gid), some (.bool false), some (.pointer (some ⟨pm, 2, none⟩)), some (.int .i64 gid), some (.string (mkS IG)), some (.tuple #[])] : List (Option Value)).getD j none) (by kernel_rfl) (fun _ _ _ => True) (fun vs => [(some 54, .pointer (some ⟨pl, 0, none⟩)), (some 55, .pointer (some ⟨pm, 2, none⟩)), (some 56, .int .i64 gid), (some 57, .bool false), (some 58, .pointer (some ⟨pm, 2, none⟩)), (some 59, .int .i64 gid), (some 60, .string (mkS IG)), (some 61, .tuple #[])]) (fun _ => by kernel_rfl) (AllAt.cons ?_ (AllAt.cons ?_ (AllAt.cons ?_ (AllAt.cons ?_ (AllAt.cons ?_ (AllAt.cons ?_ (AllAt.cons ?_ (AllAt.cons ?_ (AllAt.nil))))))))) ?_
  · -- 0: var
    intro L vs a' w' hA hF hG K hK
    have e4 : a'.tmps[4]? = some (.pointer (some ⟨pl, 0, none⟩)) := hF.old rfl (by kernel_rfl)
    clear hF hA
    go_simp
    exact hK _ _ (hG.next_val KPT rfl trivial (Below.refl _ _))
  · -- 1: addr
    intro L vs a' w' hA hF hG K hK
    have e3 : a'.tmps[3]? = some (.pointer (some ⟨pm, 0, none⟩)) := hF.old rfl (by kernel_rfl)
    clear hF hA
    go_simp
    exact hK _ _ (hG.next_val KPT rfl trivial (Below.refl _ _))
  · -- 2: load
    intro L vs a' w' hA hF hG K hK
    have e55 : a'.tmps[55]? = some (.pointer (some ⟨pm, 2, none⟩)) := hG.at hF 1 55 (hA ⟨1, .data⟩ (by simp) rfl) rfl rfl
    have hblk := (hG.below.block pm (blk_lt HM.out)).trans HM.out
    have c2 : w'.cell? ⟨pm, 2, none⟩ = some (.int .i64 gid) := blk_cell hblk 2
    have lg := blk_lt hblk
    clear hblk
    clear hF hA
    go_simp
    exact hK _ _ (hG.next_val KPT rfl trivial (Below.refl _ _))
  · -- 3: plain
    intro L vs a' w' hA hF hG K hK
    have e56 : a'.tmps[56]? = some (.int .i64 gid) := hG.at hF 2 56 (hA ⟨2, .data⟩ (by simp) rfl) rfl rfl
    have h1 : ¬ (2097151 : Int) <  gid := Int.not_lt.2 HGI.out
    clear hF hA
    go_simp
    exact hK _ _ (hG.next_val KPT rfl trivial (Below.refl _ _))
  · -- 4: addr
    intro L vs a' w' hA hF hG K hK
    have e3 : a'.tmps[3]? = some (.pointer (some ⟨pm, 0, none⟩)) := hF.old rfl (by kernel_rfl)
    clear hF hA
    go_simp
    exact hK _ _ (hG.next_val KPT rfl trivial (Below.refl _ _))
  · -- 5: load
    intro L vs a' w' hA hF hG K hK
    have e58 : a'.tmps[58]? = some (.pointer (some ⟨pm, 2, none⟩)) := hG.at hF 4 58 (hA ⟨4, .data⟩ (by simp) rfl) rfl rfl
    have hblk := (hG.below.block pm (blk_lt HM.out)).trans HM.out
    have c2 : w'.cell? ⟨pm, 2, none⟩ = some (.int .i64 gid) := blk_cell hblk 2
    have lg := blk_lt hblk
    clear hblk
    clear hF hA
    go_simp
    exact hK _ _ (hG.next_val KPT rfl trivial (Below.refl _ _))
  · -- 6: call
    intro L vs a' w' hA hF hG K hK
    have e59 : a'.tmps[59]? = some (.int .i64 gid) := hG.at hF 5 59 (hA ⟨5, .data⟩ (by simp) rfl) rfl rfl
    have HGW := Aside0.mk (HGB.out _ hG.below)
    clear hF hA
    go_simp
    refine (HIG.out _ HGW.out).mono ?_
    rintro e w2 ⟨rfl, hb⟩
    exact hK _ _ (hG.next_val KPT rfl trivial hb)
  · -- 7: call
    intro L vs a' w' hA hF hG K hK
    have e54 : a'.tmps[54]? = some (.pointer (some ⟨pl, 0, none⟩)) := hG.at hF 0 54 (hA ⟨0, .data⟩ (by simp) rfl) rfl rfl
    have e57 : a'.tmps[57]? = some (.bool false) := hG.at hF 3 57 (hA ⟨3, .data⟩ (by simp) rfl) rfl rfl
    have e60 : a'.tmps[60]? = some (.string (mkS IG)) := hG.at hF 6 60 (hA ⟨6, .data⟩ (by simp) rfl) rfl rfl
    have HGW := Aside0.mk (HGB.out _ hG.below)
    clear hF hA
    go_simp
    refine (add_not pl _ _ _).mono ?_
    rintro e w2 ⟨rfl, rfl⟩
    exact hK _ _ (hG.next_val KPT rfl trivial (Below.refl _ _))
  intro vs W_3 hB _
  simp only [putL, Act.put, List.setIfInBounds_toArray, List.set_cons_zero, List.set_cons_succ]
  replace HE := Aside0.mk ((hB.block pe (blk_lt HE.out)).trans HE.out)
  replace HM := Aside0.mk ((hB.block pm (blk_lt HM.out)).trans HM.out)
  replace HL := Aside0.mk ((hB.block pl (blk_lt HL.out)).trans HL.out)
  replace BW := Aside0.mk (BE.out _ hB)
  clear hB HGB BE
  clear W_2
  have BE := Aside0.mk (fun (W' : World) (hb : Below W_3.heap.size W_3 W') => below_next BW.out hb)
  have HGB := Aside0.mk (fun (W' : World) (hb : Below W_3.heap.size W_3 W') => HG.out.below (BE.out W' hb))
  go_wp2_with fail
  refine wp_region_list (by kernel_rfl) (by kernel_rfl) (fun j => ([some (.pointer (some ⟨pl, 0, none⟩)), some (.pointer (some ⟨pm, 3, none⟩)), some (.agg #[.int .i64 sec, .int .i64 nano]), some (.bool false), some (.pointer (some ⟨pm, 3, none⟩)), some (.agg #[.int .i64 sec, .int .i64 nano]), some (.string (mkS TT)), some (.tuple #[])] : List (Option Value)).getD j none) (by kernel_rfl) (fun _ _ _ => True) (fun vs => [(some 62, .pointer (some ⟨pl, 0, none⟩)), (some 63, .pointer (some ⟨pm, 3, none⟩)), (some 64, .agg #[.int .i64 sec, .int .i64 nano]), (some 65, .bool false), (some 66, .pointer (some ⟨pm, 3, none⟩)), (some 67, .agg #[.int .i64 sec, .int .i64 nano]), (some 68, .string (mkS TT)), (some 69, .tuple #[])]) (fun _ => by kernel_rfl) (AllAt.cons ?_ (AllAt.cons ?_ (AllAt.cons ?_ (AllAt.cons ?_ (AllAt.cons ?_ (AllAt.cons ?_ (AllAt.cons ?_ (AllAt.cons ?_ (AllAt.nil))))))))) ?_
  · -- 0: var
    intro L vs a' w' hA hF hG K hK
    have e4 : a'.tmps[4]? = some (.pointer (some ⟨pl, 0, none⟩)) := hF.old rfl (by kernel_rfl)
    clear hF hA
    go_simp
    exact hK _ _ (hG.next_val KPT rfl trivial (Below.refl _ _))
  · -- 1: addr
    intro L vs a' w' hA hF hG K hK
    have e3 : a'.tmps[3]? = some (.pointer (some ⟨pm, 0, none⟩)) := hF.old rfl (by kernel_rfl)
    clear hF hA
    go_simp
    exact hK _ _ (hG.next_val KPT rfl trivial (Below.refl _ _))
  · -- 2: load
    intro L vs a' w' hA hF hG K hK
    have e63 : a'.tmps[63]? = some (.pointer (some ⟨pm, 3, none⟩)) := hG.at hF 1 63 (hA ⟨1, .data⟩ (by simp) rfl) rfl rfl
    have hblk := (hG.below.block pm (blk_lt HM.out)).trans HM.out
    have c3 : w'.cell? ⟨pm, 3, none⟩ = some (.int .i64 sec) := blk_cell hblk 3
    have c4 : w'.cell? ⟨pm, 4, none⟩ = some (.int .i64 nano) := blk_cell hblk 4
    have lg := blk_lt hblk
    clear hblk
    clear hF hA
    go_simp
    exact hK _ _ (hG.next_val KPT rfl trivial (Below.refl _ _))
  · -- 3: call
    intro L vs a' w' hA hF hG K hK
    have e64 : a'.tmps[64]? = some (.agg #[.int .i64 sec, .int .i64 nano]) := hG.at hF 2 64 (hA ⟨2, .data⟩ (by simp) rfl) rfl rfl
    have HGW := Aside0.mk (HGB.out _ hG.below)
    clear hF hA
    go_simp
    refine (HLATE.out _).mono ?_
    rintro e w2 ⟨rfl, hb⟩
    exact hK _ _ (hG.next_val KPT rfl trivial hb)
  · -- 4: addr
    intro L vs a' w' hA hF hG K hK
    have e3 : a'.tmps[3]? = some (.pointer (some ⟨pm, 0, none⟩)) := hF.old rfl (by kernel_rfl)
    clear hF hA
    go_simp
    exact hK _ _ (hG.next_val KPT rfl trivial (Below.refl _ _))
  · -- 5: load
    intro L vs a' w' hA hF hG K hK
    have e66 : a'.tmps[66]? = some (.pointer (some ⟨pm, 3, none⟩)) := hG.at hF 4 66 (hA ⟨4, .data⟩ (by simp) rfl) rfl rfl
    have hblk := (hG.below.block pm (blk_lt HM.out)).trans HM.out
    have c3 : w'.cell? ⟨pm, 3, none⟩ = some (.int .i64 sec) := blk_cell hblk 3
    have c4 : w'.cell? ⟨pm, 4, none⟩ = some (.int .i64 nano) := blk_cell hblk 4
    have lg := blk_lt hblk
    clear hblk
    clear hF hA
    go_simp
    exact hK _ _ (hG.next_val KPT rfl trivial (Below.refl _ _))
  · -- 6: call
    intro L vs a' w' hA hF hG K hK
    have e67 : a'.tmps[67]? = some (.agg #[.int .i64 sec, .int .i64 nano]) := hG.at hF 5 67 (hA ⟨5, .data⟩ (by simp) rfl) rfl rfl
    have HGW := Aside0.mk (HGB.out _ hG.below)
    clear hF hA
    go_simp
    refine (HTT.out _ HGW.out).mono ?_
    rintro e w2 ⟨rfl, hb⟩
    exact hK _ _ (hG.next_val KPT rfl trivial hb)
  · -- 7: call
    intro L vs a' w' hA hF hG K hK
    have e62 : a'.tmps[62]? = some (.pointer (some ⟨pl, 0, none⟩)) := hG.at hF 0 62 (hA ⟨0, .data⟩ (by simp) rfl) rfl rfl
    have e65 : a'.tmps[65]? = some (.bool false) := hG.at hF 3 65 (hA ⟨3, .data⟩ (by simp) rfl) rfl rfl
    have e68 : a'.tmps[68]? = some (.string (mkS TT)) := hG.at hF 6 68 (hA ⟨6, .data⟩ (by simp) rfl) rfl rfl
    have HGW := Aside0.mk (HGB.out _ hG.below)
    clear hF hA
    go_simp
    refine (add_not pl _ _ _).mono ?_
    rintro e w2 ⟨rfl, rfl⟩
    exact hK _ _ (hG.next_val KPT rfl trivial (Below.refl _ _))
  intro vs W_4 hB _
  simp only [putL, Act.put, List.setIfInBounds_toArray, List.set_cons_zero, List.set_cons_succ]
  replace HE := Aside0.mk ((hB.block pe (blk_lt HE.out)).trans HE.out)
  replace HM := Aside0.mk ((hB.block pm (blk_lt HM.out)).trans HM.out)
  replace HL := Aside0.mk ((hB.block pl (blk_lt HL.out)).trans HL.out)
  replace BW := Aside0.mk (BE.out _ hB)
  clear hB HGB BE
  clear W_3
  have BE := Aside0.mk (fun (W' : World) (hb : Below W_4.heap.size W_4 W') => below_next BW.out hb)
  have HGB := Aside0.mk (fun (W' : World) (hb : Below W_4.heap.size W_4 W') => HG.out.below (BE.out W' hb))
  go_wp2_with fail
  refine wp_region_list (by kernel_rfl) (by kernel_rfl) (fun j => ([some (.pointer (some ⟨pl, 0, none⟩)), some (.pointer (some ⟨pm, 5, none⟩)), some (.slice none 0 0), some (.int .i64 0), some (.bool false), some (.pointer (some ⟨pm, 5, none⟩)), some (.slice none 0 0), some (.string ⟨#[]⟩), some (.tuple #[])] : List (Option Value)).getD j none) (by kernel_rfl) (fun _ _ _ => True) (fun vs => [(some 70, .pointer (some ⟨pl, 0, none⟩)), (some 71, .pointer (some ⟨pm, 5, none⟩)), (some 72, .slice none 0 0), (some 73, .int .i64 0), (some 74, .bool false), (some 75, .pointer (some ⟨pm, 5, none⟩)), (some 76, .slice none 0 0), (some 77, .string ⟨#[]⟩), (some 78, .tuple #[])]) (fun _ => by kernel_rfl) (AllAt.cons ?_ (AllAt.cons ?_ (AllAt.cons ?_ (AllAt.cons ?_ (AllAt.cons ?_ (AllAt.cons ?_ (AllAt.cons ?_ (AllAt.cons ?_ (AllAt.cons ?_ (AllAt.nil)))))))))) ?_
  · -- 0: var
    intro L vs a' w' hA hF hG K hK
    have e4 : a'.tmps[4]? = some (.pointer (some ⟨pl, 0, none⟩)) := hF.old rfl (by kernel_rfl)
    clear hF hA
    go_simp
    exact hK _ _ (hG.next_val KPT rfl trivial (Below.refl _ _))
  · -- 1: addr
    intro L vs a' w' hA hF hG K hK
    have e3 : a'.tmps[3]? = some (.pointer (some ⟨pm, 0, none⟩)) := hF.old rfl (by kernel_rfl)
    clear hF hA
    go_simp
    exact hK _ _ (hG.next_val KPT rfl trivial (Below.refl _ _))
  · -- 2: load
    intro L vs a' w' hA hF hG K hK
    have e71 : a'.tmps[71]? = some (.pointer (some ⟨pm, 5, none⟩)) := hG.at hF 1 71 (hA ⟨1, .data⟩ (by simp) rfl) rfl rfl
    have hblk := (hG.below.block pm (blk_lt HM.out)).trans HM.out
    have c5 : w'.cell? ⟨pm, 5, none⟩ = some (.slice none 0 0) := blk_cell hblk 5
    have lg := blk_lt hblk
    clear hblk
    clear hF hA
    go_simp
    exact hK _ _ (hG.next_val KPT rfl trivial (Below.refl _ _))
  · -- 3: plain
    intro L vs a' w' hA hF hG K hK
    have e72 : a'.tmps[72]? = some (.slice none 0 0) := hG.at hF 2 72 (hA ⟨2, .data⟩ (by simp) rfl) rfl rfl
    clear hF hA
    go_simp
    exact hK _ _ (hG.next_val KPT rfl trivial (Below.refl _ _))
  · -- 4: plain
    intro L vs a' w' hA hF hG K hK
    have e73 : a'.tmps[73]? = some (.int .i64 0) := hG.at hF 3 73 (hA ⟨3, .data⟩ (by simp) rfl) rfl rfl
    clear hF hA
    go_simp
    exact hK _ _ (hG.next_val KPT rfl trivial (Below.refl _ _))
  · -- 5: addr
    intro L vs a' w' hA hF hG K hK
    have e3 : a'.tmps[3]? = some (.pointer (some ⟨pm, 0, none⟩)) := hF.old rfl (by kernel_rfl)
    clear hF hA
    go_simp
    exact hK _ _ (hG.next_val KPT rfl trivial (Below.refl _ _))
  · -- 6: load
    intro L vs a' w' hA hF hG K hK
    have e75 : a'.tmps[75]? = some (.pointer (some ⟨pm, 5, none⟩)) := hG.at hF 5 75 (hA ⟨5, .data⟩ (by simp) rfl) rfl rfl
    have hblk := (hG.below.block pm (blk_lt HM.out)).trans HM.out
    have c5 : w'.cell? ⟨pm, 5, none⟩ = some (.slice none 0 0) := blk_cell hblk 5
    have lg := blk_lt hblk
    clear hblk
    clear hF hA
    go_simp
    exact hK _ _ (hG.next_val KPT rfl trivial (Below.refl _ _))
  · -- 7: call
    intro L vs a' w' hA hF hG K hK
    have e76 : a'.tmps[76]? = some (.slice none 0 0) := hG.at hF 6 76 (hA ⟨6, .data⟩ (by simp) rfl) rfl rfl
    have HGW := Aside0.mk (HGB.out _ hG.below)
    clear hF hA
    go_simp
    refine (aclText_nil _).mono ?_
    rintro e w2 ⟨rfl, hb⟩
    exact hK _ _ (hG.next_val KPT rfl trivial hb)
  · -- 8: call
    intro L vs a' w' hA hF hG K hK
    have e70 : a'.tmps[70]? = some (.pointer (some ⟨pl, 0, none⟩)) := hG.at hF 0 70 (hA ⟨0, .data⟩ (by simp) rfl) rfl rfl
    have e74 : a'.tmps[74]? = some (.bool false) := hG.at hF 4 74 (hA ⟨4, .data⟩ (by simp) rfl) rfl rfl
    have e77 : a'.tmps[77]? = some (.string ⟨#[]⟩) := hG.at hF 7 77 (hA ⟨7, .data⟩ (by simp) rfl) rfl rfl
    have HGW := Aside0.mk (HGB.out _ hG.below)
    clear hF hA
    go_simp
    refine (add_not pl _ _ _).mono ?_
    rintro e w2 ⟨rfl, rfl⟩
    exact hK _ _ (hG.next_val KPT rfl trivial (Below.refl _ _))
  intro vs W_5 hB _
  simp only [putL, Act.put, List.setIfInBounds_toArray, List.set_cons_zero, List.set_cons_succ]
  replace HE := Aside0.mk ((hB.block pe (blk_lt HE.out)).trans HE.out)
  replace HM := Aside0.mk ((hB.block pm (blk_lt HM.out)).trans HM.out)
  replace HL := Aside0.mk ((hB.block pl (blk_lt HL.out)).trans HL.out)
  replace BW := Aside0.mk (BE.out _ hB)
  clear hB HGB BE
  clear W_4
  have BE := Aside0.mk (fun (W' : World) (hb : Below W_5.heap.size W_5 W') => below_next BW.out hb)
  have HGB := Aside0.mk (fun (W' : World) (hb : Below W_5.heap.size W_5 W') => HG.out.below (BE.out W' hb))
  go_wp2_with fail
  refine wp_region_list (by kernel_rfl) (by kernel_rfl) (fun j => ([some (.pointer (some ⟨pl, 0, none⟩)), some (.pointer (some ⟨pm, 6, none⟩)), some (.slice none 0 0), some (.int .i64 0), some (.bool false), some (.pointer (some ⟨pm, 6, none⟩)), some (.slice none 0 0), some (.string ⟨#[]⟩), some (.tuple #[])] : List (Option Value)).getD j none) (by kernel_rfl) (fun _ _ _ => True) (fun vs => [(some 79, .pointer (some ⟨pl, 0, none⟩)), (some 80, .pointer (some ⟨pm, 6, none⟩)), (some 81, .slice none 0 0), (some 82, .int .i64 0), (some 83, .bool false), (some 84, .pointer (some ⟨pm, 6, none⟩)), (some 85, .slice none 0 0), (some 86, .string ⟨#[]⟩), (some 87, .tuple #[])]) (fun _ => by kernel_rfl) (AllAt.cons ?_ (AllAt.cons ?_ (AllAt.cons ?_ (AllAt.cons ?_ (AllAt.cons ?_ (AllAt.cons ?_ (AllAt.cons ?_ (AllAt.cons ?_ (AllAt.cons ?_ (AllAt.nil)))))))))) ?_
  · -- 0: var
    intro L vs a' w' hA hF hG K hK
    have e4 : a'.tmps[4]? = some (.pointer (some ⟨pl, 0, none⟩)) := hF.old rfl (by kernel_rfl)
    clear hF hA
    go_simp
    exact hK _ _ (hG.next_val KPT rfl trivial (Below.refl _ _))
  · -- 1: addr
    intro L vs a' w' hA hF hG K hK
    have e3 : a'.tmps[3]? = some (.pointer (some ⟨pm, 0, none⟩)) := hF.old rfl (by kernel_rfl)
    clear hF hA
    go_simp
    exact hK _ _ (hG.next_val KPT rfl trivial (Below.refl _ _))
  · -- 2: load
    intro L vs a' w' hA hF hG K hK
    have e80 : a'.tmps[80]? = some (.pointer (some ⟨pm, 6, none⟩)) := hG.at hF 1 80 (hA ⟨1, .data⟩ (by simp) rfl) rfl rfl
    have hblk := (hG.below.block pm (blk_lt HM.out)).trans HM.out
    have c6 : w'.cell? ⟨pm, 6, none⟩ = some (.slice none 0 0) := blk_cell hblk 6
    have lg := blk_lt hblk
    clear hblk
    clear hF hA
    go_simp
    exact hK _ _ (hG.next_val KPT rfl trivial (Below.refl _ _))
  · -- 3: plain
    intro L vs a' w' hA hF hG K hK
    have e81 : a'.tmps[81]? = some (.slice none 0 0) := hG.at hF 2 81 (hA ⟨2, .data⟩ (by simp) rfl) rfl rfl
    clear hF hA
    go_simp
    exact hK _ _ (hG.next_val KPT rfl trivial (Below.refl _ _))
  · -- 4: plain
    intro L vs a' w' hA hF hG K hK
    have e82 : a'.tmps[82]? = some (.int .i64 0) := hG.at hF 3 82 (hA ⟨3, .data⟩ (by simp) rfl) rfl rfl
    clear hF hA
    go_simp
    exact hK _ _ (hG.next_val KPT rfl trivial (Below.refl _ _))
  · -- 5: addr
    intro L vs a' w' hA hF hG K hK
    have e3 : a'.tmps[3]? = some (.pointer (some ⟨pm, 0, none⟩)) := hF.old rfl (by kernel_rfl)
    clear hF hA
    go_simp
    exact hK _ _ (hG.next_val KPT rfl trivial (Below.refl _ _))
  · -- 6: load
    intro L vs a' w' hA hF hG K hK
    have e84 : a'.tmps[84]? = some (.pointer (some ⟨pm, 6, none⟩)) := hG.at hF 5 84 (hA ⟨5, .data⟩ (by simp) rfl) rfl rfl
    have hblk := (hG.below.block pm (blk_lt HM.out)).trans HM.out
    have c6 : w'.cell? ⟨pm, 6, none⟩ = some (.slice none 0 0) := blk_cell hblk 6
    have lg := blk_lt hblk
    clear hblk
    clear hF hA
    go_simp
    exact hK _ _ (hG.next_val KPT rfl trivial (Below.refl _ _))
  · -- 7: call
    intro L vs a' w' hA hF hG K hK
    have e85 : a'.tmps[85]? = some (.slice none 0 0) := hG.at hF 6 85 (hA ⟨6, .data⟩ (by simp) rfl) rfl rfl
    have HGW := Aside0.mk (HGB.out _ hG.below)
    clear hF hA
    go_simp
    refine (aclText_nil _).mono ?_
    rintro e w2 ⟨rfl, hb⟩
    exact hK _ _ (hG.next_val KPT rfl trivial hb)
  · -- 8: call
    intro L vs a' w' hA hF hG K hK
    have e79 : a'.tmps[79]? = some (.pointer (some ⟨pl, 0, none⟩)) := hG.at hF 0 79 (hA ⟨0, .data⟩ (by simp) rfl) rfl rfl
    have e83 : a'.tmps[83]? = some (.bool false) := hG.at hF 4 83 (hA ⟨4, .data⟩ (by simp) rfl) rfl rfl
    have e86 : a'.tmps[86]? = some (.string ⟨#[]⟩) := hG.at hF 7 86 (hA ⟨7, .data⟩ (by simp) rfl) rfl rfl
    have HGW := Aside0.mk (HGB.out _ hG.below)
    clear hF hA
    go_simp
    refine (add_not pl _ _ _).mono ?_
    rintro e w2 ⟨rfl, rfl⟩
    exact hK _ _ (hG.next_val KPT rfl trivial (Below.refl _ _))
  intro vs W_6 hB _
  simp only [putL, Act.put, List.setIfInBounds_toArray, List.set_cons_zero, List.set_cons_succ]
  replace HE := Aside0.mk ((hB.block pe (blk_lt HE.out)).trans HE.out)
  replace HM := Aside0.mk ((hB.block pm (blk_lt HM.out)).trans HM.out)
  replace HL := Aside0.mk ((hB.block pl (blk_lt HL.out)).trans HL.out)
  replace BW := Aside0.mk (BE.out _ hB)
  clear hB HGB BE
  clear W_5
  have BE := Aside0.mk (fun (W' : World) (hb : Below W_6.heap.size W_6 W') => below_next BW.out hb)
  have HGB := Aside0.mk (fun (W' : World) (hb : Below W_6.heap.size W_6 W') => HG.out.below (BE.out W' hb))
  go_wp2_with fail
  refine wp_region_list (by kernel_rfl) (by kernel_rfl) (fun j => ([some (.pointer (some ⟨pl, 0, none⟩)), some (.pointer (some ⟨pm, 13, none⟩)), some (.int .i64 0), some (.bool false), some (.pointer (some ⟨pm, 13, none⟩)), some (.int .i64 0), some (.string ⟨#[]⟩), some (.tuple #[])] : List (Option Value)).getD j none) (by kernel_rfl) (fun _ _ _ => True) (fun vs => [(some 88, .pointer (some ⟨pl, 0, none⟩)), (some 89, .pointer (some ⟨pm, 13, none⟩)), (some 90, .int .i64 0), (some 91, .bool false), (some 92, .pointer (some ⟨pm, 13, none⟩)), (some 93, .int .i64 0), (some 94, .string ⟨#[]⟩), (some 95, .tuple #[])]) (fun _ => by kernel_rfl) (AllAt.cons ?_ (AllAt.cons ?_ (AllAt.cons ?_ (AllAt.cons ?_ (AllAt.cons ?_ (AllAt.cons ?_ (AllAt.cons ?_ (AllAt.cons ?_ (AllAt.nil))))))))) ?_
  · -- 0: var
    intro L vs a' w' hA hF hG K hK
    have e4 : a'.tmps[4]? = some (.pointer (some ⟨pl, 0, none⟩)) := hF.old rfl (by kernel_rfl)
    clear hF hA
    go_simp
    exact hK _ _ (hG.next_val KPT rfl trivial (Below.refl _ _))
  · -- 1: addr
    intro L vs a' w' hA hF hG K hK
    have e3 : a'.tmps[3]? = some (.pointer (some ⟨pm, 0, none⟩)) := hF.old rfl (by kernel_rfl)
    clear hF hA
    go_simp
    exact hK _ _ (hG.next_val KPT rfl trivial (Below.refl _ _))
  · -- 2: load
    intro L vs a' w' hA hF hG K hK
    have e89 : a'.tmps[89]? = some (.pointer (some ⟨pm, 13, none⟩)) := hG.at hF 1 89 (hA ⟨1, .data⟩ (by simp) rfl) rfl rfl
    have hblk := (hG.below.block pm (blk_lt HM.out)).trans HM.out
    have c13 : w'.cell? ⟨pm, 13, none⟩ = some (.int .i64 0) := blk_cell hblk 13
    have lg := blk_lt hblk
    clear hblk
    clear hF hA
    go_simp
    exact hK _ _ (hG.next_val KPT rfl trivial (Below.refl _ _))
  · -- 3: plain
    intro L vs a' w' hA hF hG K hK
    have e90 : a'.tmps[90]? = some (.int .i64 0) := hG.at hF 2 90 (hA ⟨2, .data⟩ (by simp) rfl) rfl rfl
    clear hF hA
    go_simp
    exact hK _ _ (hG.next_val KPT rfl trivial (Below.refl _ _))
  · -- 4: addr
    intro L vs a' w' hA hF hG K hK
    have e3 : a'.tmps[3]? = some (.pointer (some ⟨pm, 0, none⟩)) := hF.old rfl (by kernel_rfl)
    clear hF hA
    go_simp
    exact hK _ _ (hG.next_val KPT rfl trivial (Below.refl _ _))
  · -- 5: load
    intro L vs a' w' hA hF hG K hK
    have e92 : a'.tmps[92]? = some (.pointer (some ⟨pm, 13, none⟩)) := hG.at hF 4 92 (hA ⟨4, .data⟩ (by simp) rfl) rfl rfl
    have hblk := (hG.below.block pm (blk_lt HM.out)).trans HM.out
    have c13 : w'.cell? ⟨pm, 13, none⟩ = some (.int .i64 0) := blk_cell hblk 13
    have lg := blk_lt hblk
    clear hblk
    clear hF hA
    go_simp
    exact hK _ _ (hG.next_val KPT rfl trivial (Below.refl _ _))
  · -- 6: call
    intro L vs a' w' hA hF hG K hK
    have e93 : a'.tmps[93]? = some (.int .i64 0) := hG.at hF 5 93 (hA ⟨5, .data⟩ (by simp) rfl) rfl rfl
    have HGW := Aside0.mk (HGB.out _ hG.below)
    clear hF hA
    go_simp
    refine (flagsText_zero _).mono ?_
    rintro e w2 ⟨rfl, hb⟩
    exact hK _ _ (hG.next_val KPT rfl trivial hb)
  · -- 7: call
    intro L vs a' w' hA hF hG K hK
    have e88 : a'.tmps[88]? = some (.pointer (some ⟨pl, 0, none⟩)) := hG.at hF 0 88 (hA ⟨0, .data⟩ (by simp) rfl) rfl rfl
    have e91 : a'.tmps[91]? = some (.bool false) := hG.at hF 3 91 (hA ⟨3, .data⟩ (by simp) rfl) rfl rfl
    have e94 : a'.tmps[94]? = some (.string ⟨#[]⟩) := hG.at hF 6 94 (hA ⟨6, .data⟩ (by simp) rfl) rfl rfl
    have HGW := Aside0.mk (HGB.out _ hG.below)
    clear hF hA
    go_simp
    refine (add_not pl _ _ _).mono ?_
    rintro e w2 ⟨rfl, rfl⟩
    exact hK _ _ (hG.next_val KPT rfl trivial (Below.refl _ _))
  intro vs W_7 hB _
  simp only [putL, Act.put, List.setIfInBounds_toArray, List.set_cons_zero, List.set_cons_succ]
  replace HE := Aside0.mk ((hB.block pe (blk_lt HE.out)).trans HE.out)
  replace HM := Aside0.mk ((hB.block pm (blk_lt HM.out)).trans HM.out)
  replace HL := Aside0.mk ((hB.block pl (blk_lt HL.out)).trans HL.out)
  replace BW := Aside0.mk (BE.out _ hB)
  clear hB HGB BE
  clear W_6
  have BE := Aside0.mk (fun (W' : World) (hb : Below W_7.heap.size W_7 W') => below_next BW.out hb)
  have HGB := Aside0.mk (fun (W' : World) (hb : Below W_7.heap.size W_7 W') => HG.out.below (BE.out W' hb))
  go_wp2_with fail
  refine wp_region_list (by kernel_rfl) (by kernel_rfl) (fun j => ([some (.pointer (some ⟨pl, 0, none⟩)), some (.pointer (some ⟨pm, 8, none⟩)), some (.pointer (some ⟨pm, 8, none⟩)), some (.int .i64 0), some (.bool false), some (.pointer (some ⟨pm, 8, none⟩)), some (.agg #[.int .i64 0, .int .u64 0, .int .u64 0, .bool false, .int .i64 0]), some (.string ⟨#[]⟩), some (.string ⟨#[]⟩), some (.tuple #[])] : List (Option Value)).getD j none) (by kernel_rfl) (fun _ _ _ => True) (fun vs => [(some 96, .pointer (some ⟨pl, 0, none⟩)), (some 97, .pointer (some ⟨pm, 8, none⟩)), (some 98, .pointer (some ⟨pm, 8, none⟩)), (some 99, .int .i64 0), (some 100, .bool false), (some 101, .pointer (some ⟨pm, 8, none⟩)), (some 102, .agg #[.int .i64 0, .int .u64 0, .int .u64 0, .bool false, .int .i64 0]), (some 103, .string ⟨#[]⟩), (some 104, .string ⟨#[]⟩), (some 105, .tuple #[])]) (fun _ => by kernel_rfl) (AllAt.cons ?_ (AllAt.cons ?_ (AllAt.cons ?_ (AllAt.cons ?_ (AllAt.cons ?_ (AllAt.cons ?_ (AllAt.cons ?_ (AllAt.cons ?_ (AllAt.cons ?_ (AllAt.cons ?_ (AllAt.nil))))))))))) ?_
  · -- 0: var
    intro L vs a' w' hA hF hG K hK
    have e4 : a'.tmps[4]? = some (.pointer (some ⟨pl, 0, none⟩)) := hF.old rfl (by kernel_rfl)
    clear hF hA
    go_simp
    exact hK _ _ (hG.next_val KPT rfl trivial (Below.refl _ _))
  · -- 1: addr
    intro L vs a' w' hA hF hG K hK
    have e3 : a'.tmps[3]? = some (.pointer (some ⟨pm, 0, none⟩)) := hF.old rfl (by kernel_rfl)
    clear hF hA
    go_simp
    exact hK _ _ (hG.next_val KPT rfl trivial (Below.refl _ _))
  · -- 2: addr
    intro L vs a' w' hA hF hG K hK
    have e97 : a'.tmps[97]? = some (.pointer (some ⟨pm, 8, none⟩)) := hG.at hF 1 97 (hA ⟨1, .data⟩ (by simp) rfl) rfl rfl
    clear hF hA
    go_simp
    exact hK _ _ (hG.next_val KPT rfl trivial (Below.refl _ _))
  · -- 3: load
    intro L vs a' w' hA hF hG K hK
    have e98 : a'.tmps[98]? = some (.pointer (some ⟨pm, 8, none⟩)) := hG.at hF 2 98 (hA ⟨2, .data⟩ (by simp) rfl) rfl rfl
    have hblk := (hG.below.block pm (blk_lt HM.out)).trans HM.out
    have c8 : w'.cell? ⟨pm, 8, none⟩ = some (.int .i64 0) := blk_cell hblk 8
    have lg := blk_lt hblk
    clear hblk
    clear hF hA
    go_simp
    exact hK _ _ (hG.next_val KPT rfl trivial (Below.refl _ _))
  · -- 4: plain
    intro L vs a' w' hA hF hG K hK
    have e99 : a'.tmps[99]? = some (.int .i64 0) := hG.at hF 3 99 (hA ⟨3, .data⟩ (by simp) rfl) rfl rfl
    clear hF hA
    go_simp
    exact hK _ _ (hG.next_val KPT rfl trivial (Below.refl _ _))
  · -- 5: addr
    intro L vs a' w' hA hF hG K hK
    have e3 : a'.tmps[3]? = some (.pointer (some ⟨pm, 0, none⟩)) := hF.old rfl (by kernel_rfl)
    clear hF hA
    go_simp
    exact hK _ _ (hG.next_val KPT rfl trivial (Below.refl _ _))
  · -- 6: load
    intro L vs a' w' hA hF hG K hK
    have e101 : a'.tmps[101]? = some (.pointer (some ⟨pm, 8, none⟩)) := hG.at hF 5 101 (hA ⟨5, .data⟩ (by simp) rfl) rfl rfl
    have hblk := (hG.below.block pm (blk_lt HM.out)).trans HM.out
    have c8 : w'.cell? ⟨pm, 8, none⟩ = some (.int .i64 0) := blk_cell hblk 8
    have c9 : w'.cell? ⟨pm, 9, none⟩ = some (.int .u64 0) := blk_cell hblk 9
    have c10 : w'.cell? ⟨pm, 10, none⟩ = some (.int .u64 0) := blk_cell hblk 10
    have c11 : w'.cell? ⟨pm, 11, none⟩ = some (.bool false) := blk_cell hblk 11
    have c12 : w'.cell? ⟨pm, 12, none⟩ = some (.int .i64 0) := blk_cell hblk 12
    have lg := blk_lt hblk
    clear hblk
    clear hF hA
    go_simp
    exact hK _ _ (hG.next_val KPT rfl trivial (Below.refl _ _))
  · -- 7: call
    intro L vs a' w' hA hF hG K hK
    have e102 : a'.tmps[102]? = some (.agg #[.int .i64 0, .int .u64 0, .int .u64 0, .bool false, .int .i64 0]) := hG.at hF 6 102 (hA ⟨6, .data⟩ (by simp) rfl) rfl rfl
    have HGW := Aside0.mk (HGB.out _ hG.below)
    clear hF hA
    go_simp
    refine (capsPut_zero _).mono ?_
    rintro e w2 ⟨rfl, hb⟩
    exact hK _ _ (hG.next_val KPT rfl trivial hb)
  · -- 8: call
    intro L vs a' w' hA hF hG K hK
    have e103 : a'.tmps[103]? = some (.string ⟨#[]⟩) := hG.at hF 7 103 (hA ⟨7, .data⟩ (by simp) rfl) rfl rfl
    have HGW := Aside0.mk (HGB.out _ hG.below)
    clear hF hA
    go_simp
    refine (sixtyPut_none _).mono ?_
    rintro e w2 ⟨rfl, hb⟩
    exact hK _ _ (hG.next_val KPT rfl trivial hb)
  · -- 9: call
    intro L vs a' w' hA hF hG K hK
    have e96 : a'.tmps[96]? = some (.pointer (some ⟨pl, 0, none⟩)) := hG.at hF 0 96 (hA ⟨0, .data⟩ (by simp) rfl) rfl rfl
    have e100 : a'.tmps[100]? = some (.bool false) := hG.at hF 4 100 (hA ⟨4, .data⟩ (by simp) rfl) rfl rfl
    have e104 : a'.tmps[104]? = some (.string ⟨#[]⟩) := hG.at hF 8 104 (hA ⟨8, .data⟩ (by simp) rfl) rfl rfl
    have HGW := Aside0.mk (HGB.out _ hG.below)
    clear hF hA
    go_simp
    refine (add_not pl _ _ _).mono ?_
    rintro e w2 ⟨rfl, rfl⟩
    exact hK _ _ (hG.next_val KPT rfl trivial (Below.refl _ _))
  intro vs W_8 hB _
  simp only [putL, Act.put, List.setIfInBounds_toArray, List.set_cons_zero, List.set_cons_succ]
  replace HE := Aside0.mk ((hB.block pe (blk_lt HE.out)).trans HE.out)
  replace HM := Aside0.mk ((hB.block pm (blk_lt HM.out)).trans HM.out)
  replace HL := Aside0.mk ((hB.block pl (blk_lt HL.out)).trans HL.out)
  replace BW := Aside0.mk (BE.out _ hB)
  clear hB HGB BE
  clear W_7
  have BE := Aside0.mk (fun (W' : World) (hb : Below W_8.heap.size W_8 W') => below_next BW.out hb)
  have HGB := Aside0.mk (fun (W' : World) (hb : Below W_8.heap.size W_8 W') => HG.out.below (BE.out W' hb))
  go_wp2_with fail
  refine wp_region_list (by kernel_rfl) (by kernel_rfl) (fun j => ([some (.pointer (some ⟨pl, 0, none⟩)), some (.pointer (some ⟨pl, 0, none⟩)), some (.pointer (some ⟨pl, 0, none⟩)), some (.slice none 0 0), some (.pointer (some ⟨pm, 7, none⟩)), some (.slice none 0 0), some (.slice none 0 0), some (.slice none 0 0), some (.slice none 0 0)] : List (Option Value)).getD j none) (by kernel_rfl) (fun _ _ _ => True) (fun vs => [(some 106, .pointer (some ⟨pl, 0, none⟩)), (some 107, .pointer (some ⟨pl, 0, none⟩)), (some 108, .pointer (some ⟨pl, 0, none⟩)), (some 109, .slice none 0 0), (some 110, .pointer (some ⟨pm, 7, none⟩)), (some 111, .slice none 0 0), (some 112, .slice none 0 0), (some 113, .slice none 0 0), (some 2, .slice none 0 0)]) (fun _ => by kernel_rfl) (AllAt.cons ?_ (AllAt.cons ?_ (AllAt.cons ?_ (AllAt.cons ?_ (AllAt.cons ?_ (AllAt.cons ?_ (AllAt.cons ?_ (AllAt.cons ?_ (AllAt.cons ?_ (AllAt.nil)))))))))) ?_
  · -- 0: var
    intro L vs a' w' hA hF hG K hK
    have e4 : a'.tmps[4]? = some (.pointer (some ⟨pl, 0, none⟩)) := hF.old rfl (by kernel_rfl)
    clear hF hA
    go_simp
    exact hK _ _ (hG.next_val KPT rfl trivial (Below.refl _ _))
  · -- 1: plain
    intro L vs a' w' hA hF hG K hK
    have e106 : a'.tmps[106]? = some (.pointer (some ⟨pl, 0, none⟩)) := hG.at hF 0 106 (hA ⟨0, .data⟩ (by simp) rfl) rfl rfl
    clear hF hA
    go_simp
    exact hK _ _ (hG.next_val KPT rfl trivial (Below.refl _ _))
  · -- 2: addr
    intro L vs a' w' hA hF hG K hK
    have e107 : a'.tmps[107]? = some (.pointer (some ⟨pl, 0, none⟩)) := hG.at hF 1 107 (hA ⟨1, .data⟩ (by simp) rfl) rfl rfl
    clear hF hA
    go_simp
    exact hK _ _ (hG.next_val KPT rfl trivial (Below.refl _ _))
  · -- 3: load
    intro L vs a' w' hA hF hG K hK
    have e108 : a'.tmps[108]? = some (.pointer (some ⟨pl, 0, none⟩)) := hG.at hF 2 108 (hA ⟨2, .data⟩ (by simp) rfl) rfl rfl
    have hblk := (hG.below.block pl (blk_lt HL.out)).trans HL.out
    have c0 : w'.cell? ⟨pl, 0, none⟩ = some (.slice none 0 0) := blk_cell hblk 0
    have lg := blk_lt hblk
    clear hblk
    clear hF hA
    go_simp
    exact hK _ _ (hG.next_val KPT rfl trivial (Below.refl _ _))
  · -- 4: addr
    intro L vs a' w' hA hF hG K hK
    have e3 : a'.tmps[3]? = some (.pointer (some ⟨pm, 0, none⟩)) := hF.old rfl (by kernel_rfl)
    clear hF hA
    go_simp
    exact hK _ _ (hG.next_val KPT rfl trivial (Below.refl _ _))
  · -- 5: load
    intro L vs a' w' hA hF hG K hK
    have e110 : a'.tmps[110]? = some (.pointer (some ⟨pm, 7, none⟩)) := hG.at hF 4 110 (hA ⟨4, .data⟩ (by simp) rfl) rfl rfl
    have hblk := (hG.below.block pm (blk_lt HM.out)).trans HM.out
    have c7 : w'.cell? ⟨pm, 7, none⟩ = some (.slice none 0 0) := blk_cell hblk 7
    have lg := blk_lt hblk
    clear hblk
    clear hF hA
    go_simp
    exact hK _ _ (hG.next_val KPT rfl trivial (Below.refl _ _))
  · -- 6: call
    intro L vs a' w' hA hF hG K hK
    have e111 : a'.tmps[111]? = some (.slice none 0 0) := hG.at hF 5 111 (hA ⟨5, .data⟩ (by simp) rfl) rfl rfl
    have HGW := Aside0.mk (HGB.out _ hG.below)
    clear hF hA
    go_simp
    refine (xattrRecs_nil _).mono ?_
    rintro e w2 ⟨rfl, hb⟩
    exact hK _ _ (hG.next_val KPT rfl trivial hb)
  · -- 7: plain
    intro L vs a' w' hA hF hG K hK
    have e109 : a'.tmps[109]? = some (.slice none 0 0) := hG.at hF 3 109 (hA ⟨3, .data⟩ (by simp) rfl) rfl rfl
    have e112 : a'.tmps[112]? = some (.slice none 0 0) := hG.at hF 6 112 (hA ⟨6, .data⟩ (by simp) rfl) rfl rfl
    clear hF hA
    go_simp
    exact hK _ _ (hG.next_val KPT rfl trivial (Below.refl _ _))
  · -- 8: plain
    intro L vs a' w' hA hF hG K hK
    have e113 : a'.tmps[113]? = some (.slice none 0 0) := hG.at hF 7 113 (hA ⟨7, .data⟩ (by simp) rfl) rfl rfl
    clear hF hA
    go_simp
    exact hK _ _ (hG.next_val KPT rfl trivial (Below.refl _ _))
  intro vs W' hB _
  simp only [putL, Act.put, List.setIfInBounds_toArray, List.set_cons_zero, List.set_cons_succ]
  go_wp2_with fail
  go_ret
  exact ⟨rfl, BE.out _ hB⟩
end Go.Proofs.YtbjbnipjeehaoaaGreatDoor
namespace Go.Proofs.YtbjbnipjeehaoaaGreatDoor
open Go.RowKit
def nameOk (s : List UInt8) : Bool := s != [] && decide (s.length ≤ 255) && s != [46] && s != [46, 46]
def pathOk (s : List UInt8) : Bool := (splitOn 47 s).all nameOk && decide (s.length ≤ 4096) && decide ((splitOn 47 s).length ≤ 64) && !s.contains 0
theorem splitOn_app (c : UInt8) : ∀ a b : List UInt8, splitOn c (a ++ c :: b) = splitOn c a ++ splitOn c b
  | [], b => by simp [splitOn]
  | x :: a, b => by
    have ih := splitOn_app c a b
    by_cases h : x = c
    · subst h
      rw [List.cons_append, splitOn, if_pos rfl, ih, splitOn, if_pos rfl, List.cons_append]
    · rw [List.cons_append, splitOn, if_neg h, ih, splitOn, if_neg h]
      cases hs : splitOn c a with
      | nil => exact absurd hs (splitOn_ne c a)
      | cons y r => rfl
theorem splitOn_one (c : UInt8) : ∀ a : List UInt8, (∀ x ∈ a, x ≠ c) → splitOn c a = [a]
  | [], _ => rfl
  | x :: a, h => by
    have ih := splitOn_one c a (fun y hy => h y (List.mem_cons_of_mem _ hy))
    rw [splitOn, if_neg (h x (List.mem_cons_self ..)), ih]
/-- A path of k strokes by good names. -/
structure Walked (s : List UInt8) (k : Nat) : Prop where
  names : (splitOn 47 s).all nameOk = true
  parts : (splitOn 47 s).length = k + 1
  no0 : ∀ c ∈ s, c ≠ 0
  len : s.length ≤ 1 + 70 * k
  start : s ≠ []
structure Named (x : List UInt8) (n : Nat) : Prop where
  ok : nameOk x = true
  no0 : ∀ c ∈ x, c ≠ 0
  no47 : ∀ c ∈ x, c ≠ 47
  len : x.length ≤ n
theorem Walked.step {s x : List UInt8} {k : Nat} (h : Walked s k) (hx : Named x 69) : Walked (s ++ 47 :: x) (k + 1) := by
  have e := splitOn_app 47 s x
  rw [splitOn_one 47 x hx.no47] at e
  refine ⟨?_, ?_, ?_, ?_, by simp⟩
  · rw [e, List.all_append, h.names]; simp [hx.ok]
  · rw [e, List.length_append, h.parts]; rfl
  · intro c hc
    rcases List.mem_append.1 hc with hc | hc
    · exact h.no0 c hc
    · rcases List.mem_cons.1 hc with rfl | hc
      · decide
      · exact hx.no0 c hc
  · have h1 := h.len
    have h2 := hx.len
    rw [List.length_append, List.length_cons]
    omega
theorem no0_contains {s : List UInt8} (h : ∀ c ∈ s, c ≠ 0) : s.contains 0 = false := by
  rw [Bool.eq_false_iff]
  intro hc
  simp only [List.contains_eq_mem, decide_eq_true_eq] at hc
  exact h 0 hc rfl
theorem Walked.path {s : List UInt8} {k : Nat} (h : Walked s k) (hk : k ≤ 50) : pathOk s = true := by
  unfold pathOk
  have h1 := h.len
  have h2 := h.parts
  rw [h.names, no0_contains h.no0, decide_eq_true (by omega), decide_eq_true (by omega)]
  rfl
/-- One more name, of whatever length a name may have. -/
theorem Walked.more {s x : List UInt8} {k : Nat} (h : Walked s k) (hk : k ≤ 50) (hx : Named x 255) : pathOk (s ++ 47 :: x) = true := by
  have e := splitOn_app 47 s x
  rw [splitOn_one 47 x hx.no47] at e
  have h1 := h.len
  have h2 := h.parts
  have h3 := hx.len
  unfold pathOk
  rw [e, List.all_append, h.names, no0_contains (s := s ++ 47 :: x), decide_eq_true (by rw [List.length_append, List.length_cons]; omega), decide_eq_true (by rw [List.length_append, h2]; simp; omega)]
  · simp [hx.ok]
  · intro c hc
    rcases List.mem_append.1 hc with hc | hc
    · exact h.no0 c hc
    · rcases List.mem_cons.1 hc with rfl | hc
      · decide
      · exact hx.no0 c hc
theorem path_parts {s : List UInt8} (h : pathOk s = true) : ∀ x ∈ splitOn 47 s, nameOk x = true := by
  unfold pathOk at h
  simp only [Bool.and_eq_true] at h
  exact List.all_eq_true.1 h.1.1.1
/-- A part that is no name: no path. -/
theorem bad_part {s : List UInt8} (x : List UInt8) (hx : x ∈ splitOn 47 s) (hn : nameOk x = false) : pathOk s = false := by
  cases h : pathOk s with
  | false => rfl
  | true => exact absurd (path_parts h x hx) (by rw [hn]; decide)
theorem bad_empty : pathOk [] = false := rfl
theorem bad_ahead (s : List UInt8) : pathOk (47 :: s) = false := bad_part [] (by simp [splitOn]) rfl
theorem bad_behind (s t x : List UInt8) (hx : x ∈ splitOn 47 t) (hn : nameOk x = false) : pathOk (s ++ 47 :: t) = false :=
  bad_part x (by rw [splitOn_app]; exact List.mem_append_right _ hx) hn
theorem bad_front (s t x : List UInt8) (hx : x ∈ splitOn 47 s) (hn : nameOk x = false) : pathOk (s ++ 47 :: t) = false :=
  bad_part x (by rw [splitOn_app]; exact List.mem_append_left _ hx) hn
theorem bad_zero (s : List UInt8) : pathOk (s ++ [0]) = false := by
  unfold pathOk
  have hc : (s ++ [0]).contains 0 = true := by simp
  rw [hc]
  simp
theorem bad_long (s x : List UInt8) (hx : ∀ c ∈ x, c ≠ 47) (hl : 255 < x.length) : pathOk (s ++ 47 :: x) = false := by
  refine bad_behind s x x (by rw [splitOn_one 47 x hx]; simp) ?_
  unfold nameOk
  rw [decide_eq_false (show ¬ x.length ≤ 255 by omega)]
  simp
/-- a/a/a.. -/
def manyP : Nat → List UInt8
  | 0 => [97]
  | n + 1 => manyP n ++ [47, 97]
theorem many_length : ∀ n, (manyP n).length = 1 + 2 * n
  | 0 => rfl
  | n + 1 => by rw [manyP, List.length_append, many_length n]; simp; omega
theorem many_parts : ∀ n, (splitOn 47 (manyP n)).length = n + 1 ∧ (splitOn 47 (manyP n)).all nameOk = true ∧ ∀ c ∈ manyP n, c ≠ 0
  | 0 => ⟨rfl, rfl, by intro c hc; rw [manyP, List.mem_singleton] at hc; rw [hc]; decide⟩
  | n + 1 => by
    obtain ⟨h1, h2, h3⟩ := many_parts n
    have e : splitOn 47 (manyP (n + 1)) = splitOn 47 (manyP n) ++ [[97]] := by
      rw [manyP, splitOn_app]; rfl
    refine ⟨by rw [e, List.length_append, h1]; rfl, by rw [e, List.all_append, h2]; rfl, ?_⟩
    intro c hc
    rw [manyP] at hc
    rcases List.mem_append.1 hc with hc | hc
    · exact h3 c hc
    · simp at hc
      rcases hc with rfl | rfl <;> decide
theorem many_path (n : Nat) (hn : n ≤ 1000) : pathOk (manyP n) = decide (n + 1 ≤ 64) := by
  obtain ⟨h1, h2, h3⟩ := many_parts n
  unfold pathOk
  rw [h1, h2, no0_contains h3, many_length, decide_eq_true (show 1 + 2 * n ≤ 4096 by omega)]
  simp
/- The statements' own names and paths, by numbers. -/
def baseL : Nat → List UInt8
  | 0 => [97] | 1 => [98] | 2 => [100, 105, 114] | 3 => [120, 32, 121] | 4 => [255] | 5 => [108, 111, 110, 103] | 6 => [195, 164] | _ => [99]
def nameT (n : Nat) : List UInt8 := baseL (n % 8) ++ List.replicate (if 200 ≤ n then n - 190 else 0) 122
theorem name_named (n : Nat) (hn : n ≤ 255) : Named (nameT n) 69 := by
  obtain ⟨z, hz⟩ : ∃ z, (if 200 ≤ n then n - 190 else 0) = z := ⟨_, rfl⟩
  have hzl : z ≤ 65 := by rw [← hz]; split <;> omega
  have hr : ∀ c ∈ List.replicate z (122 : UInt8), c = 122 := fun c hc => List.eq_of_mem_replicate hc
  unfold nameT
  rw [hz]
  have key : ∀ b : List UInt8, b ≠ [] → b.length ≤ 4 → (∀ c ∈ b, c ≠ 0 ∧ c ≠ 47 ∧ c ≠ 46) → Named (b ++ List.replicate z 122) 69 := by
    intro b hb0 hb1 hb2
    have hne : ∀ c ∈ b ++ List.replicate z 122, c ≠ 0 ∧ c ≠ 47 ∧ c ≠ 46 := by
      intro c hc
      rcases List.mem_append.1 hc with hc | hc
      · exact hb2 c hc
      · rw [hr c hc]; decide
    refine ⟨?_, fun c hc => (hne c hc).1, fun c hc => (hne c hc).2.1, by simp; omega⟩
    have e1 : b ++ List.replicate z 122 ≠ [] := by simp [hb0]
    have e2 : b ++ List.replicate z 122 ≠ [46] := fun e => (hne 46 (by rw [e]; simp)).2.2 rfl
    have e3 : b ++ List.replicate z 122 ≠ [46, 46] := fun e => (hne 46 (by rw [e]; simp)).2.2 rfl
    have e4 : (b ++ List.replicate z 122).length ≤ 255 := by simp; omega
    unfold nameOk
    rw [decide_eq_true e4]
    simp only [bne_iff_ne, ne_eq, Bool.and_eq_true, Bool.and_true]
    exact ⟨⟨e1, e2⟩, e3⟩
  have h8 : n % 8 < 8 := Nat.mod_lt _ (by decide)
  generalize n % 8 = k at *
  have hk : k = 0 ∨ k = 1 ∨ k = 2 ∨ k = 3 ∨ k = 4 ∨ k = 5 ∨ k = 6 ∨ k = 7 := by omega
  rcases hk with rfl | rfl | rfl | rfl | rfl | rfl | rfl | rfl
  all_goals exact key _ (by decide) (by decide) (by decide)
def pathN (ns : List Nat) : List UInt8 := ns.foldl (fun s n => s ++ 47 :: nameT n) [112]
theorem pathN_snoc (ns : List Nat) (n : Nat) : pathN (ns ++ [n]) = pathN ns ++ 47 :: nameT n := by unfold pathN; rw [List.foldl_append]; rfl
theorem walked_p : Walked [112] 0 := ⟨rfl, rfl, by decide, by decide, by decide⟩
theorem pathN_walked : ∀ (k : Nat) (ns : List Nat), ns.length = k → (∀ n ∈ ns, n ≤ 255) → Walked (pathN ns) k
  | 0, ns, h, _ => by obtain rfl := List.length_eq_zero_iff.1 h; exact walked_p
  | k + 1, ns, h, hb => by
    rcases List.eq_nil_or_concat ns with rfl | ⟨l, n, rfl⟩
    · simp at h
    · rw [List.concat_eq_append] at *
      rw [pathN_snoc]
      exact (pathN_walked k l (by simpa using h) (fun m hm => hb m (List.mem_append_left _ hm))).step (name_named n (hb n (by simp)))
def badT (s long : List UInt8) : Nat → List UInt8
  | 0 => [] | 1 => 47 :: s | 2 => s ++ [47] | 3 => s ++ [47, 47, 97] | 4 => s ++ [47, 46] | 5 => [46, 46, 47] ++ s | 6 => s ++ [47, 46, 46, 47, 98] | 7 => s ++ [0] | 8 => s ++ [47] ++ long | _ => [46, 47] ++ s
theorem bad_all (s long : List UInt8) (h1 : ∀ c ∈ long, c ≠ 47) (h2 : 255 < long.length) (k : Nat) (hk : k < 10) : pathOk (badT s long k) = false := by
  have hk : k = 0 ∨ k = 1 ∨ k = 2 ∨ k = 3 ∨ k = 4 ∨ k = 5 ∨ k = 6 ∨ k = 7 ∨ k = 8 ∨ k = 9 := by omega
  rcases hk with rfl | rfl | rfl | rfl | rfl | rfl | rfl | rfl | rfl | rfl
  · exact bad_empty
  · exact bad_ahead s
  · exact bad_behind s [] [] (by decide) rfl
  · exact bad_behind s [47, 97] [] (by decide) rfl
  · exact bad_behind s [46] [46] (by decide) rfl
  · exact bad_front [46, 46] s [46, 46] (by decide) rfl
  · exact bad_behind s [46, 46, 47, 98] [46, 46] (by decide) rfl
  · exact bad_zero s
  · have := bad_long s long h1 h2
    unfold badT
    rw [List.append_assoc]
    exact this
  · exact bad_front [46] s [46] (by decide) rfl
end Go.Proofs.YtbjbnipjeehaoaaGreatDoor
namespace Go.Proofs.YtbjbnipjeehaoaaGreatDoor
open Go.RowKit Go.Proofs.YtbjbnipjeehaoaaGreatDoorW.PrintWords
set_option maxHeartbeats 1000000 in
theorem name_any (s : List UInt8) (w : World) : Calls Tryz.prog 75 #[.string (mkS s)] w fun e w' => e = .returned (.bool (nameOk s)) ∧ w' = w := by
  obtain ⟨r, hr⟩ : ∃ r, r = nameOk s := ⟨_, rfl⟩
  rw [← hr]
  unfold nameOk at hr
  have HR := Aside0.mk hr
  clear hr
  by_cases h1 : s = []
  · subst h1
    go_enter Tryz.func75, Tryz.ntmps75
    go_wp2_with fail
    go_ret
    exact ⟨by rw [HR.out]; rfl, rfl⟩
  have e1 : s.isEmpty = false := by cases s with | nil => exact absurd rfl h1 | cons _ _ => rfl
  have e1' : (s == []) = false := by simpa using h1
  by_cases h2 : s.length ≤ 255
  · have h2' : (s.length : Int) ≤ 255 := by omega
    by_cases h3 : s = [46]
    · subst h3
      go_enter Tryz.func75, Tryz.ntmps75
      go_wp2_with fail
      go_ret
      exact ⟨by rw [HR.out]; rfl, rfl⟩
    have e3 : (s == [46]) = false := by simpa using h3
    by_cases h4 : s = [46, 46]
    · subst h4
      go_enter Tryz.func75, Tryz.ntmps75
      go_wp2_with fail
      go_ret
      exact ⟨by rw [HR.out]; rfl, rfl⟩
    have e4 : (s == [46, 46]) = false := by simpa using h4
    have HR2 := Aside0.mk (show r = true by rw [HR.out, decide_eq_true h2]; simp [h1, h3, h4])
    clear HR h1 h3 h4
    go_enter Tryz.func75, Tryz.ntmps75
    go_wp2_with fail
    go_ret
    exact ⟨by rw [HR2.out]; rfl, rfl⟩
  · have h2' : ¬ (s.length : Int) ≤ 255 := by omega
    have HR2 := Aside0.mk (show r = false by rw [HR.out, decide_eq_false h2]; simp)
    clear HR h1
    go_enter Tryz.func75, Tryz.ntmps75
    go_wp2_with fail
    go_ret
    exact ⟨by rw [HR2.out]; rfl, rfl⟩
theorem all_take {l : List (List UInt8)} {i : Nat} (h : ∀ j x, j < i → l[j]? = some x → nameOk x = true) (hi : l.length ≤ i) : l.all nameOk = true := by
  rw [List.all_eq_true]
  intro x hx
  obtain ⟨j, hj, rfl⟩ := List.getElem_of_mem hx
  exact h j _ (by omega) (List.getElem?_eq_getElem hj)
theorem all_not {l : List (List UInt8)} {i : Nat} {x : List UInt8} (hx : l[i]? = some x) (hn : nameOk x = false) : l.all nameOk = false := by
  rw [Bool.eq_false_iff]
  intro h
  have := List.all_eq_true.1 h x (List.mem_of_getElem? hx)
  rw [hn] at this
  cases this
set_option maxHeartbeats 2000000 in
set_option maxRecDepth 100000 in
theorem path_any (s : List UInt8) (w : World) (hG : Good w) (hs : s.length < 1000000) :
    Calls Tryz.prog 22 #[.string (mkS s)] w fun e w' => e = .returned (.bool (pathOk s)) ∧ Below w.heap.size w w' := by
  obtain ⟨r, hr⟩ : ∃ r, r = pathOk s := ⟨_, rfl⟩
  rw [← hr]
  unfold pathOk at hr
  have hls : (splitOn 47 s).length ≤ 1000000 := by rw [splitOn_length]; have := List.count_le_length (a := (47 : UInt8)) (l := s); omega
  have HSP := Aside0.mk (split_any s 47 w hG (by omega))
  obtain ⟨z, hz⟩ : ∃ z, s.contains 0 = z := ⟨_, rfl⟩
  have HC := Aside0.mk (fun W => H.contains_zero s z hz W)
  rw [hz] at hr
  clear hz
  obtain ⟨ps, hps⟩ : ∃ ps, splitOn 47 s = ps := ⟨_, rfl⟩
  rw [hps] at hr hls HSP
  clear hps hG
  have HR := Aside0.mk hr
  clear hr
  have hblk := heap_alloc_new w (.cells ((ps.map mkS).map Value.string).toArray 9)
  have HB := Aside0.mk (below_alloc (Below.refl w.heap.size w) (.cells ((ps.map mkS).map Value.string).toArray 9))
  have HW := Aside0.mk hblk
  clear hblk
  go_enter Tryz.func22, Tryz.ntmps22
  go_wp2_with fail
  refine HSP.out.mono ?_
  rintro e w1 ⟨rfl, rfl⟩
  obtain ⟨W0, hW0⟩ : ∃ W, W = w.alloc (.cells ((ps.map mkS).map Value.string).toArray 9) := ⟨_, rfl⟩
  rw [← hW0] at HB HW ⊢
  clear hW0 HSP
  go_wp2_with fail
  go_loopw [10] (fun v wr => ∃ i : Nat, i ≤ ps.length ∧ v = .int .i64 (i : Int) ∧ wr = W0 ∧ Aside0 (∀ j x, j < i → ps[j]? = some x → nameOk x = true)) (fun v _ => ps.length - (intOf v).toNat)
  case atStart => exact ⟨0, Nat.zero_le _, rfl, rfl, ⟨fun j x hj => by omega⟩⟩
  case round =>
    obtain ⟨i, hi, rfl, rfl, HA⟩ := hrel
    by_cases hlt : i < ps.length
    · obtain ⟨x, hx⟩ : ∃ x, ps[i]? = some x := ⟨_, List.getElem?_eq_getElem hlt⟩
      have hcell : wr.cell? ⟨w.heap.size, i, none⟩ = some (.string (mkS x)) := by
        simp [World.cell?, HW.out, hx]
      have v1 : (i : Int) < (ps.length : Int) := by omega
      have HX := Aside0.mk hx
      have HN := Aside0.mk (name_any x wr)
      clear hx
      cases hn : nameOk x with
      | true =>
        rw [hn] at HN
        have HA2 := Aside0.mk (show ∀ j y, j < i + 1 → ps[j]? = some y → nameOk y = true from fun j y hj hy => by
          rcases Nat.lt_succ_iff_lt_or_eq.1 hj with h | rfl
          · exact HA.out j y h hy
          · rw [HX.out] at hy; injection hy with hy; rw [← hy]; exact hn)
        clear hn
        go_wp2_with fail
        refine HN.out.mono ?_
        rintro e w2 ⟨rfl, rfl⟩
        go_wp2_with fail
        exact ⟨⟨i + 1, by omega, by go_num, trivial, HA2⟩, by simp [intOf]; omega⟩
      | false =>
        rw [hn] at HN
        have HF := Aside0.mk (show r = false by rw [HR.out, all_not HX.out hn]; rfl)
        clear hn
        go_wp2_with fail
        refine HN.out.mono ?_
        rintro e w2 ⟨rfl, rfl⟩
        go_wp2_with fail
        go_ret
        exact ⟨by rw [HF.out]; rfl, HB.out⟩
    · obtain rfl : i = ps.length := by omega
      have v1 : ¬ (ps.length : Int) < (ps.length : Int) := by omega
      have HR2 := Aside0.mk (show r = (decide (s.length ≤ 4096) && decide (ps.length ≤ 64) && !z) by rw [HR.out, all_take HA.out (Nat.le_refl _)]; rfl)
      clear HR HA
      by_cases h1 : s.length ≤ 4096
      · have u1 : (s.length : Int) ≤ 4096 := by omega
        by_cases h2 : ps.length ≤ 64
        · have u2 : (ps.length : Int) ≤ 64 := by omega
          have HR3 := Aside0.mk (show r = !z by rw [HR2.out, decide_eq_true h1, decide_eq_true h2]; rfl)
          clear HR2
          cases z
          all_goals
            go_wp2_with fail
            refine (HC.out _).mono ?_
            rintro e w2 ⟨rfl, rfl⟩
            go_wp2_with fail
            go_ret
            exact ⟨by rw [HR3.out]; rfl, HB.out⟩
        · have u2 : ¬ (ps.length : Int) ≤ 64 := by omega
          have HR3 := Aside0.mk (show r = false by rw [HR2.out, decide_eq_true h1, decide_eq_false h2]; rfl)
          clear HR2
          go_wp2_with fail
          go_ret
          exact ⟨by rw [HR3.out]; rfl, HB.out⟩
      · have u1 : ¬ (s.length : Int) ≤ 4096 := by omega
        have HR3 := Aside0.mk (show r = false by rw [HR2.out, decide_eq_false h1]; rfl)
        clear HR2
        go_wp2_with fail
        go_ret
        exact ⟨by rw [HR3.out]; rfl, HB.out⟩
end Go.Proofs.YtbjbnipjeehaoaaGreatDoor
namespace Go.Proofs.YtbjbnipjeehaoaaGreatDoor
open Go.RowKit Go.Proofs.YtbjbnipjeehaoaaGreatDoorW.PrintWords
theorem must_ok (k : ByteArray) (w : World) : Calls Tryz.prog 170 #[.bool true, .string k] w fun e w' => e = .returned (.tuple #[]) ∧ w' = w := by
  go_enter Tryz.func170, Tryz.ntmps170
  go_wp2_with fail
  go_end0
  exact ⟨rfl, rfl⟩
def metaC (mode uid gid sec nano : Int) : Array Value := #[.int .i64 mode, .int .i64 uid, .int .i64 gid, .int .i64 sec, .int .i64 nano, .slice none 0 0, .slice none 0 0, .slice none 0 0, .int .i64 0, .int .u64 0, .int .u64 0, .bool false, .int .i64 0, .int .i64 0]
structure MetaOk (mode uid gid sec nano : Int) : Prop where
  mode : 0 ≤ mode ∧ mode ≤ 4095
  uid : 0 ≤ uid ∧ uid ≤ 2147483647
  gid : 0 ≤ gid ∧ gid ≤ 2147483647
  time : S.mayT sec nano = true
set_option maxHeartbeats 4000000 in
set_option maxRecDepth 100000 in
theorem look_ok (mode uid gid sec nano : Int) (hm : MetaOk mode uid gid sec nano) (w : World) :
    Calls Tryz.prog 97 #[.agg (metaC mode uid gid sec nano), .int .i64 1] w fun e w' => e = .returned (.tuple #[]) ∧ Below w.heap.size w w' := by
  obtain ⟨⟨a1, a2⟩, ⟨b1, b2⟩, ⟨d1, d2⟩, ht⟩ := hm
  have HS := Aside0.mk (fun W => S.may_is sec nano true ht W)
  have HF := Aside0.mk (fun W => show Calls Tryz.prog 121 #[.int .i64 0] W fun e w' => e = .returned (.bool true) ∧ Below W.heap.size W w' from flagsMay_any 0 W)
  have HX := Aside0.mk (fun W => xattrMay_nil W)
  have HC := Aside0.mk (fun W => capsMay_zero W)
  have H0 := Aside0.mk (heap_alloc_new w (.cells (metaC mode uid gid sec nano) 31))
  have B0 := Aside0.mk (below_alloc (Below.refl w.heap.size w) (.cells (metaC mode uid gid sec nano) 31))
  clear ht
  unfold metaC at *
  unfold capsZ at HC
  obtain ⟨W, hW⟩ : ∃ W, W = w.alloc (.cells #[.int .i64 mode, .int .i64 uid, .int .i64 gid, .int .i64 sec, .int .i64 nano, .slice none 0 0, .slice none 0 0, .slice none 0 0, .int .i64 0, .int .u64 0, .int .u64 0, .bool false, .int .i64 0, .int .i64 0] 31) := ⟨_, rfl⟩
  go_enter Tryz.func97, Tryz.ntmps97
  go_wp2_with fail
  rw [← hW] at H0 B0 ⊢
  clear hW
  obtain ⟨p, hp⟩ : ∃ p, w.heap.size = p := ⟨_, rfl⟩
  rw [hp] at H0
  rw [show w.heap.size = p from hp]
  have c0 : W.cell? ⟨p, 0, none⟩ = some (.int .i64 mode) := blk_cell H0.out 0
  have c1 : W.cell? ⟨p, 1, none⟩ = some (.int .i64 uid) := blk_cell H0.out 1
  have c2 : W.cell? ⟨p, 2, none⟩ = some (.int .i64 gid) := blk_cell H0.out 2
  have c3 : W.cell? ⟨p, 3, none⟩ = some (.int .i64 sec) := blk_cell H0.out 3
  have c4 : W.cell? ⟨p, 4, none⟩ = some (.int .i64 nano) := blk_cell H0.out 4
  iterate 3
    refine (must_ok _ _).mono ?_
    rintro e u ⟨rfl, hu⟩
    rw [hu]
    clear hu u
    go_wp2_with fail
  refine (HS.out _).mono ?_
  rintro e W1 ⟨rfl, hb1⟩
  have H1 := Aside0.mk ((hb1.block _ (blk_lt H0.out)).trans H0.out)
  have B1 := Aside0.mk (below_next B0.out hb1)
  clear hb1 c0 c1 c2 c3 c4 H0 B0
  clear W
  have c13 : W1.cell? ⟨p, 13, none⟩ = some (.int .i64 0) := blk_cell H1.out 13
  go_wp2_with fail
  refine (HF.out _).mono ?_
  rintro e W2 ⟨rfl, hb1⟩
  have H2 := Aside0.mk ((hb1.block _ (blk_lt H1.out)).trans H1.out)
  have B2 := Aside0.mk (below_next B1.out hb1)
  clear hb1 c13 H1 B1
  clear W1
  have c7 : W2.cell? ⟨p, 7, none⟩ = some (.slice none 0 0) := blk_cell H2.out 7
  go_wp2_with fail
  refine (HX.out _).mono ?_
  rintro e W3 ⟨rfl, hb1⟩
  have H3 := Aside0.mk ((hb1.block _ (blk_lt H2.out)).trans H2.out)
  have B3 := Aside0.mk (below_next B2.out hb1)
  clear hb1 c7 H2 B2
  clear W2
  have c0 : W3.cell? ⟨p, 0, none⟩ = some (.int .i64 mode) := blk_cell H3.out 0
  have c5 : W3.cell? ⟨p, 5, none⟩ = some (.slice none 0 0) := blk_cell H3.out 5
  have c6 : W3.cell? ⟨p, 6, none⟩ = some (.slice none 0 0) := blk_cell H3.out 6
  have c8 : W3.cell? ⟨p, 8, none⟩ = some (.int .i64 0) := blk_cell H3.out 8
  have c9 : W3.cell? ⟨p, 9, none⟩ = some (.int .u64 0) := blk_cell H3.out 9
  have c10 : W3.cell? ⟨p, 10, none⟩ = some (.int .u64 0) := blk_cell H3.out 10
  have c11 : W3.cell? ⟨p, 11, none⟩ = some (.bool false) := blk_cell H3.out 11
  have c12 : W3.cell? ⟨p, 12, none⟩ = some (.int .i64 0) := blk_cell H3.out 12
  go_wp2_with fail
  refine (must_ok _ _).mono ?_
  rintro e u ⟨rfl, hu⟩
  rw [hu]
  clear hu u
  clear c0 c5 c6 c8 c9 c10 c11 c12
  go_wp2_with fail
  refine wp_region_skip (by kernel_rfl) (by kernel_rfl) (fun j => ([some (.pointer (some ⟨p, 5, none⟩)), some (.slice none 0 0), some (.int .i64 0), some (.bool true), some (.bool true), some (undef), some (undef), some (undef), some (undef), some (undef), some (undef), some (undef), some (undef), some (undef), some (undef), some (undef), some (undef), some (.bool true), some (.tuple #[])] : List (Option Value)).getD j none) (fun i => decide (5 ≤ i) && decide (i ≤ 16)) (by kernel_rfl) ?_ (fun _ _ _ => True) KPT (fun _ _ _ => trivial) (fun vs => [(some 57, .pointer (some ⟨p, 5, none⟩)), (some 58, .slice none 0 0), (some 59, .int .i64 0), (some 60, .bool true), (some 61, .bool true), (some 62, undef), (some 63, undef), (some 64, undef), (some 65, undef), (some 66, undef), (some 67, undef), (some 68, undef), (some 69, undef), (some 70, undef), (some 71, undef), (some 72, undef), (some 73, undef), (some 74, .bool true), (some 75, .tuple #[])]) (fun _ => by kernel_rfl) (AllAt.cons ?_ (AllAt.cons ?_ (AllAt.cons ?_ (AllAt.cons ?_ (AllAt.cons ?_ (AllAt.cons ?_ (AllAt.cons ?_ (AllAt.cons ?_ (AllAt.cons ?_ (AllAt.cons ?_ (AllAt.cons ?_ (AllAt.cons ?_ (AllAt.cons ?_ (AllAt.cons ?_ (AllAt.cons ?_ (AllAt.cons ?_ (AllAt.cons ?_ (AllAt.cons ?_ (AllAt.cons ?_ (AllAt.nil)))))))))))))))))))) ?_
  · intro i hi
    have hi2 : 5 ≤ i ∧ i ≤ 16 := by simpa using hi
    obtain rfl | rfl | rfl | rfl | rfl | rfl | rfl | rfl | rfl | rfl | rfl | rfl : i = 5 ∨ i = 6 ∨ i = 7 ∨ i = 8 ∨ i = 9 ∨ i = 10 ∨ i = 11 ∨ i = 12 ∨ i = 13 ∨ i = 14 ∨ i = 15 ∨ i = 16 := by omega
    all_goals rfl
  · intro _ L vs a' w' hA hF hG K hK
    have e2 : a'.tmps[2]? = some (.pointer (some ⟨p, 0, none⟩)) := hF.old rfl (by kernel_rfl)
    clear hF hA
    go_simp
    exact hK _ _ (hG.next_val KPT rfl trivial (Below.refl _ _))
  · intro _ L vs a' w' hA hF hG K hK
    have e57 : a'.tmps[57]? = some (.pointer (some ⟨p, 5, none⟩)) := hG.at hF 0 57 (hA ⟨0, .data⟩ (by simp) rfl) rfl rfl
    have hblk := (hG.below.block p (blk_lt H3.out)).trans H3.out
    have c5 : w'.cell? ⟨p, 5, none⟩ = some (.slice none 0 0) := blk_cell hblk 5
    have lg := blk_lt hblk
    clear hblk
    clear hF hA
    go_simp
    exact hK _ _ (hG.next_val KPT rfl trivial (Below.refl _ _))
  · intro _ L vs a' w' hA hF hG K hK
    have e58 : a'.tmps[58]? = some (.slice none 0 0) := hG.at hF 1 58 (hA ⟨1, .data⟩ (by simp) rfl) rfl rfl
    clear hF hA
    go_simp
    exact hK _ _ (hG.next_val KPT rfl trivial (Below.refl _ _))
  · intro _ L vs a' w' hA hF hG K hK
    have e59 : a'.tmps[59]? = some (.int .i64 0) := hG.at hF 2 59 (hA ⟨2, .data⟩ (by simp) rfl) rfl rfl
    clear hF hA
    go_simp
    exact hK _ _ (hG.next_val KPT rfl trivial (Below.refl _ _))
  · intro _ L vs a' w' hA hF hG K hK
    have e60 : a'.tmps[60]? = some (.bool true) := hG.at hF 3 60 (hA ⟨3, .data⟩ (by simp) rfl) rfl rfl
    clear hF hA
    go_simp
    exact hK _ _ (hG.next_val KPT rfl trivial (Below.refl _ _))
  · intro hsk; exact absurd hsk (by decide)
  · intro hsk; exact absurd hsk (by decide)
  · intro hsk; exact absurd hsk (by decide)
  · intro hsk; exact absurd hsk (by decide)
  · intro hsk; exact absurd hsk (by decide)
  · intro hsk; exact absurd hsk (by decide)
  · intro hsk; exact absurd hsk (by decide)
  · intro hsk; exact absurd hsk (by decide)
  · intro hsk; exact absurd hsk (by decide)
  · intro hsk; exact absurd hsk (by decide)
  · intro hsk; exact absurd hsk (by decide)
  · intro hsk; exact absurd hsk (by decide)
  · intro _ L vs a' w' hA hF hG K hK
    have e61 : a'.tmps[61]? = some (.bool true) := hG.at hF 4 61 (hA ⟨4, .data⟩ (by simp) rfl) rfl rfl
    clear hF hA
    go_simp
    exact hK _ _ (hG.next_val KPT rfl trivial (Below.refl _ _))
  · intro _ L vs a' w' hA hF hG K hK
    have e74 : a'.tmps[74]? = some (.bool true) := hG.at hF 17 74 (hA ⟨17, .data⟩ (by simp) rfl) rfl rfl
    clear hF hA
    go_simp
    refine (must_ok _ _).mono ?_
    rintro e u ⟨rfl, rfl⟩
    exact hK _ _ (hG.next_val KPT rfl trivial (Below.refl _ _))
  intro vs W4 hb4 _
  simp only [putL, Act.put, List.setIfInBounds_toArray, List.set_cons_zero, List.set_cons_succ]
  have H4 := Aside0.mk ((hb4.block p (blk_lt H3.out)).trans H3.out)
  have B4 := Aside0.mk (below_next B3.out hb4)
  clear hb4 H3 B3
  have k0 : W4.cell? ⟨p, 0, none⟩ = some (.int .i64 mode) := blk_cell H4.out 0
  have k5 : W4.cell? ⟨p, 5, none⟩ = some (.slice none 0 0) := blk_cell H4.out 5
  have k6 : W4.cell? ⟨p, 6, none⟩ = some (.slice none 0 0) := blk_cell H4.out 6
  have k8 : W4.cell? ⟨p, 8, none⟩ = some (.int .i64 0) := blk_cell H4.out 8
  have k9 : W4.cell? ⟨p, 9, none⟩ = some (.int .u64 0) := blk_cell H4.out 9
  have k10 : W4.cell? ⟨p, 10, none⟩ = some (.int .u64 0) := blk_cell H4.out 10
  have k11 : W4.cell? ⟨p, 11, none⟩ = some (.bool false) := blk_cell H4.out 11
  have k12 : W4.cell? ⟨p, 12, none⟩ = some (.int .i64 0) := blk_cell H4.out 12
  go_wp2_with fail
  refine (must_ok _ _).mono ?_
  rintro e u ⟨rfl, hu⟩
  rw [hu]
  clear hu u
  go_wp2_with fail
  refine (HC.out _).mono ?_
  rintro e W5 ⟨rfl, hb1⟩
  have B5 := Aside0.mk (below_next B4.out hb1)
  clear hb1 k0 k5 k6 k8 k9 k10 k11 k12 B4 H4
  go_wp2_with fail
  refine (must_ok _ _).mono ?_
  rintro e u ⟨rfl, hu⟩
  rw [hu]
  clear hu u
  go_wp2_with fail
  refine (must_ok _ _).mono ?_
  rintro e u ⟨rfl, hu⟩
  rw [hu]
  clear hu u
  go_wp2_with fail
  go_end0
  exact ⟨rfl, B5.out⟩
end Go.Proofs.YtbjbnipjeehaoaaGreatDoor
namespace Go.Proofs.YtbjbnipjeehaoaaGreatDoor
open Go.RowKit Go.Proofs.YtbjbnipjeehaoaaGreatDoorW.PrintWords
theorem mayM_idle (a : Value) (w : World) :
    CallsD Tryz.prog 96 #[a] .returning w fun e u' w' => e = .returned (.tuple #[]) ∧ u' = .returning ∧ w' = w := by
  refine callsD_of_wpS Tryz.func96 rfl fun c₀ cs hu => ?_
  apply wpS_seq
  apply wpS_region
  simp [wpOpsS, go_sem, recoverD, hu, Tryz.ntmps96, Exit.thenS]
  refine wpS_of_wp ?_
  simp only [Array.replicate, List.replicate, List.setIfInBounds_toArray, List.set_cons_zero, List.set_cons_succ, List.append_toArray, List.cons_append, List.nil_append]
  go_wp2
  cases c₀
  simp_all [bodyPostS, results, Tryz.results96]
set_option maxRecDepth 100000 in
theorem metaMay_ok (mode uid gid sec nano : Int) (hm : MetaOk mode uid gid sec nano) (w : World) :
    Calls Tryz.prog 34 #[.agg (metaC mode uid gid sec nano), .int .i64 1] w fun e w' => e = .returned (.bool true) ∧ Below w.heap.size w w' := by
  have hmf : ∀ (fn : Fn) (first cap : Array Value) (w : World), (Instr.makeFunc fn first cap).run Tryz.prog w = .ok (.func fn first cap) w := fun _ _ _ _ => rfl
  have HL := Aside0.mk (fun W => look_ok mode uid gid sec nano hm W)
  obtain ⟨h1, h2⟩ := heap_two w (.cells (metaC mode uid gid sec nano) 31) (.cells #[.bool false] 4)
  have HB := Aside0.mk (below_alloc (below_alloc (Below.refl w.heap.size w) (.cells (metaC mode uid gid sec nano) 31)) (.cells #[.bool false] 4))
  clear hm h1
  unfold metaC at *
  go_enter_defers Tryz.func34, Tryz.ntmps34
  go_wp2_with fail
  refine (HL.out _).mono ?_
  rintro e W1 ⟨rfl, hb1⟩
  have c2 := (hb1.block _ (blk_lt h2)).trans h2
  have k2 : W1.cell? ⟨w.heap.size + 1, 0, none⟩ = some (.bool false) := blk_cell c2 0
  have f2 := blk_frozen c2 0
  have l2 := blk_lt c2
  have B1 := Aside0.mk (below_next HB.out hb1)
  clear hb1 h2 c2
  go_wp2_with fail
  refine leaves_cons (f := 96) (args := #[.pointer (some ⟨w.heap.size + 1, 0, none⟩)]) (by simp) (by simp [go_sem]) ?_
  refine (mayM_idle _ _).mono ?_
  rintro e u' w'' ⟨rfl, rfl, rfl⟩
  simp [Leaves, settle, results, Tryz.results34, go_sem, k2, l2]
  exact Below.setCell B1.out (Nat.le_succ _) _
/-- A file that may be, of which its header says all. -/
structure EnFile (e : En) : Prop where
  fits : EnFits e
  none : NoRecs e
  kind : e.kind = 1
  mode : 0 ≤ e.mode ∧ e.mode ≤ 4095
  uid : 0 ≤ e.uid
  gid : 0 ≤ e.gid
  data : e.data.length ≤ 65536
  target : e.target = []
  major : e.major = 0
  minor : e.minor = 0
  path : pathOk e.path = true
theorem EnFile.meta {e : En} (h : EnFile e) : MetaOk e.mode e.uid e.gid e.sec e.nano :=
  ⟨h.mode, ⟨h.uid, by have := h.none.uid; omega⟩, ⟨h.gid, by have := h.none.gid; omega⟩, h.none.time⟩
set_option maxRecDepth 100000 in
theorem mayTarget_ok (e : En) (h : EnFile e) (w : World) : Calls Tryz.prog 36 #[.agg (enCells e)] w fun x w' => x = .returned (.bool true) ∧ Below w.heap.size w w' := by
  have HB := Aside0.mk (below_alloc (Below.refl w.heap.size w) (.cells (enCells e) 33))
  have hk := h.kind
  have ht := h.target
  clear h
  obtain ⟨path, kind, mode, uid, gid, sec, nano, data, target, major, minor⟩ := e
  simp only at hk ht
  subst hk ht
  unfold enCells at *
  go_enter Tryz.func36, Tryz.ntmps36
  go_wp2_with fail
  go_ret
  exact ⟨rfl, HB.out⟩
set_option maxRecDepth 100000 in
theorem mayDevice_ok (e : En) (h : EnFile e) (w : World) : Calls Tryz.prog 37 #[.agg (enCells e)] w fun x w' => x = .returned (.bool true) ∧ Below w.heap.size w w' := by
  have HB := Aside0.mk (below_alloc (Below.refl w.heap.size w) (.cells (enCells e) 33))
  have hk := h.kind
  have ht := h.major
  have hn := h.minor
  clear h
  obtain ⟨path, kind, mode, uid, gid, sec, nano, data, target, major, minor⟩ := e
  simp only at hk ht hn
  subst hk ht hn
  unfold enCells at *
  go_enter Tryz.func37, Tryz.ntmps37
  go_wp2_with fail
  go_ret
  exact ⟨rfl, HB.out⟩
end Go.Proofs.YtbjbnipjeehaoaaGreatDoor
namespace Go.Proofs.YtbjbnipjeehaoaaGreatDoor
open Go.RowKit Go.Proofs.YtbjbnipjeehaoaaGreatDoorW.PrintWords
theorem entry_size : (Tryz.prog.info? 33).map (·.size) = some 20 := by kernel_rfl
set_option maxHeartbeats 4000000 in
set_option maxRecDepth 100000 in
theorem mayRecs_ok (e : En) (h : EnFile e) (w : World) (hG : Good w) : Calls Tryz.prog 38 #[.agg (enCells e)] w fun x w' => x = .returned (.bool true) ∧ Below w.heap.size w w' := by
  have BW := Aside0.mk (below_alloc (Below.refl w.heap.size w) (.cells (enCells e) 33))
  have HE := Aside0.mk (heap_alloc_new w (.cells (enCells e) 33))
  have HR := Aside0.mk (fun W hGW => recs_none e W hGW h.fits h.none)
  have HG := Aside0.mk hG
  clear h hG
  obtain ⟨path, kind, mode, uid, gid, sec, nano, data, target, major, minor⟩ := e
  unfold enCells at *
  simp only at HR BW HE
  go_enter Tryz.func38, Tryz.ntmps38
  go_upto_region 2 with (fail)
  obtain ⟨W, hW⟩ : ∃ W, W = w.alloc (.cells #[.string (mkS path), .int .i64 kind, .int .i64 mode, .int .i64 uid, .int .i64 gid, .int .i64 sec, .int .i64 nano, .slice none 0 0, .slice none 0 0, .slice none 0 0, .int .i64 0, .int .u64 0, .int .u64 0, .bool false, .int .i64 0, .int .i64 0, .string (mkS data), .string (mkS target), .int .i64 major, .int .i64 minor] 33) := ⟨_, rfl⟩
  rw [← hW] at BW HE ⊢
  clear hW
  have BE := Aside0.mk (fun (W' : World) (hb : Below W.heap.size W W') => below_next BW.out hb)
  have HGB := Aside0.mk (fun (W' : World) (hb : Below W.heap.size W W') => HG.out.below (BE.out W' hb))
  obtain ⟨pe, hpe⟩ : ∃ pe, w.heap.size = pe := ⟨_, rfl⟩
  rw [hpe] at HE
  rw [show w.heap.size = pe from hpe]
  refine wp_region_still (by kernel_rfl) (fun j => ([some (.agg #[.string (mkS path), .int .i64 kind, .int .i64 mode, .int .i64 uid, .int .i64 gid, .int .i64 sec, .int .i64 nano, .slice none 0 0, .slice none 0 0, .slice none 0 0, .int .i64 0, .int .u64 0, .int .u64 0, .bool false, .int .i64 0, .int .i64 0, .string (mkS data), .string (mkS target), .int .i64 major, .int .i64 minor]), some (.slice none 0 0), some (.int .i64 0), some (.int .i64 0)] : List (Option Value)).getD j none) (fun _ => false) (by kernel_rfl) (fun _ h => (nomatch h)) (fun _ _ _ => True) KPT (fun _ _ _ => trivial) (fun vs => [(some 6, .agg #[.string (mkS path), .int .i64 kind, .int .i64 mode, .int .i64 uid, .int .i64 gid, .int .i64 sec, .int .i64 nano, .slice none 0 0, .slice none 0 0, .slice none 0 0, .int .i64 0, .int .u64 0, .int .u64 0, .bool false, .int .i64 0, .int .i64 0, .string (mkS data), .string (mkS target), .int .i64 major, .int .i64 minor]), (some 7, .slice none 0 0), (some 8, .int .i64 0), (some 9, .int .i64 0)]) (fun _ => by kernel_rfl) (AllAt.cons ?_ (AllAt.cons ?_ (AllAt.cons ?_ (AllAt.cons ?_ (AllAt.nil))))) ?_
  · intro _ L vs a' w' hA hF hG K hK
    have e1 : a'.tmps[1]? = some (.pointer (some ⟨pe, 0, none⟩)) := hF.old rfl (by kernel_rfl)
    have hblk := (hG.below.block pe (blk_lt HE.out)).trans HE.out
    clear hF hA
    refine wp_load_row 33 (.tmp 1) rfl pe (by simp [Act.eval, e1]) 33 #[.string (mkS path), .int .i64 kind, .int .i64 mode, .int .i64 uid, .int .i64 gid, .int .i64 sec, .int .i64 nano, .slice none 0 0, .slice none 0 0, .slice none 0 0, .int .i64 0, .int .u64 0, .int .u64 0, .bool false, .int .i64 0, .int .i64 0, .string (mkS data), .string (mkS target), .int .i64 major, .int .i64 minor] _ _ hblk Tryz.underlying33 rfl entry_size ?_
    exact hK _ _ (hG.next_val KPT rfl trivial (Below.refl _ _))
  · intro _ L vs a' w' hA hF hG K hK
    have e6 : a'.tmps[6]? = some (.agg #[.string (mkS path), .int .i64 kind, .int .i64 mode, .int .i64 uid, .int .i64 gid, .int .i64 sec, .int .i64 nano, .slice none 0 0, .slice none 0 0, .slice none 0 0, .int .i64 0, .int .u64 0, .int .u64 0, .bool false, .int .i64 0, .int .i64 0, .string (mkS data), .string (mkS target), .int .i64 major, .int .i64 minor]) := hG.at hF 0 6 (hA ⟨0, .data⟩ (by simp) rfl) rfl rfl
    have HGW := Aside0.mk (HGB.out _ hG.below)
    clear hF hA
    go_simp
    refine (HR.out _ HGW.out).mono ?_
    rintro x w2 ⟨rfl, hb⟩
    exact hK _ _ (hG.next_val KPT rfl trivial hb)
  · intro _ L vs a' w' hA hF hG K hK
    have e7 : a'.tmps[7]? = some (.slice none 0 0) := hG.at hF 1 7 (hA ⟨1, .data⟩ (by simp) rfl) rfl rfl
    clear hF hA
    go_simp
    exact hK _ _ (hG.next_val KPT rfl trivial (Below.refl _ _))
  · intro _ L vs a' w' hA hF hG K hK
    clear hF hA
    go_simp
    exact hK _ _ (hG.next_val KPT rfl trivial (Below.refl _ _))
  intro vs W1 hB _
  simp only [putL, Act.put, List.setIfInBounds_toArray, List.set_cons_zero, List.set_cons_succ]
  have B1 := Aside0.mk (BE.out _ hB)
  clear hB BE HGB BW HE HR
  go_wp2_with fail
  go_loopw [3, 9] (fun s v wr => s = .int .i64 0 ∧ v = .int .i64 0 ∧ wr = W1) (fun _ _ _ => 0)
  case atStart => exact ⟨rfl, rfl, rfl⟩
  case round =>
    obtain ⟨rfl, rfl, rfl⟩ := hrel
    go_wp2_with fail
    go_ret
    exact ⟨rfl, B1.out⟩
set_option maxHeartbeats 4000000 in
set_option maxRecDepth 100000 in
theorem entMay_ok (e : En) (h : EnFile e) (w : World) (hG : Good w) : Calls Tryz.prog 12 #[.agg (enCells e)] w fun x w' => x = .returned (.bool true) ∧ Below w.heap.size w w' := by
  have HM := Aside0.mk (fun W => metaMay_ok e.mode e.uid e.gid e.sec e.nano h.meta W)
  have HP := Aside0.mk (fun W hGW => path_any e.path W hGW (by have := h.fits.path; omega))
  rw [h.path] at HP
  have HT := Aside0.mk (fun W => mayTarget_ok e h W)
  have HD := Aside0.mk (fun W => mayDevice_ok e h W)
  have HR := Aside0.mk (fun W hGW => mayRecs_ok e h W hGW)
  have hd : (e.data.length : Int) ≤ 65536 := by have := h.data; omega
  have hk := h.kind
  have HG := Aside0.mk hG
  have H0 := Aside0.mk (heap_alloc_new w (.cells (enCells e) 33))
  have B0 := Aside0.mk (below_alloc (Below.refl w.heap.size w) (.cells (enCells e) 33))
  clear h hG
  obtain ⟨path, kind, mode, uid, gid, sec, nano, data, target, major, minor⟩ := e
  simp only at hk hd
  subst hk
  unfold enCells at *
  unfold metaC at HM
  simp only at HM HP HT HD HR H0 B0
  go_enter Tryz.func12, Tryz.ntmps12
  go_wp2_with fail
  refine (HM.out _).mono ?_
  rintro x W ⟨rfl, hb1⟩
  have HE := Aside0.mk ((hb1.block _ (blk_lt H0.out)).trans H0.out)
  have BW := Aside0.mk (below_next B0.out hb1)
  clear hb1 H0 B0 HM
  have BE := Aside0.mk (fun (W' : World) (hb : Below W.heap.size W W') => below_next BW.out hb)
  have HGB := Aside0.mk (fun (W' : World) (hb : Below W.heap.size W W') => HG.out.below (BE.out W' hb))
  obtain ⟨pe, hpe⟩ : ∃ pe, w.heap.size = pe := ⟨_, rfl⟩
  rw [hpe] at HE
  rw [show w.heap.size = pe from hpe]
  have c1 : W.cell? ⟨pe, 1, none⟩ = some (.int .i64 1) := blk_cell HE.out 1
  have c16 : W.cell? ⟨pe, 16, none⟩ = some (.string (mkS data)) := blk_cell HE.out 16
  by_cases hdt : data = []
  · subst hdt
    have e0 : (mkS [] == (⟨#[]⟩ : ByteArray)) = true := by decide
    go_upto_region 5 with (fail)
    clear e0 c1 c16
    refine wp_region_still (by kernel_rfl) (fun j => ([some (.bool true), some (.bool true), some (.bool true), some (.bool true), some (.bool true), some (.pointer (some ⟨pe, 0, none⟩)), some (.string (mkS path)), some (.bool true), some (.bool true), some (.bool true), some (.pointer (some ⟨pe, 1, none⟩)), some (.int .i64 1), some (.bool true), some (.bool true), some (.bool true), some (.pointer (some ⟨pe, 1, none⟩)), some (.int .i64 1), some (.bool true), some (.bool true), some (.bool true), some (.agg #[.string (mkS path), .int .i64 1, .int .i64 mode, .int .i64 uid, .int .i64 gid, .int .i64 sec, .int .i64 nano, .slice none 0 0, .slice none 0 0, .slice none 0 0, .int .i64 0, .int .u64 0, .int .u64 0, .bool false, .int .i64 0, .int .i64 0, .string (mkS []), .string (mkS target), .int .i64 major, .int .i64 minor]), some (.bool true), some (.bool true), some (.bool true), some (.agg #[.string (mkS path), .int .i64 1, .int .i64 mode, .int .i64 uid, .int .i64 gid, .int .i64 sec, .int .i64 nano, .slice none 0 0, .slice none 0 0, .slice none 0 0, .int .i64 0, .int .u64 0, .int .u64 0, .bool false, .int .i64 0, .int .i64 0, .string (mkS []), .string (mkS target), .int .i64 major, .int .i64 minor]), some (.bool true), some (.bool true), some (.bool true), some (.agg #[.string (mkS path), .int .i64 1, .int .i64 mode, .int .i64 uid, .int .i64 gid, .int .i64 sec, .int .i64 nano, .slice none 0 0, .slice none 0 0, .slice none 0 0, .int .i64 0, .int .u64 0, .int .u64 0, .bool false, .int .i64 0, .int .i64 0, .string (mkS []), .string (mkS target), .int .i64 major, .int .i64 minor]), some (.bool true), some (.bool true), some (.bool true)] : List (Option Value)).getD j none) (fun _ => false) (by kernel_rfl) (fun _ h => (nomatch h)) (fun _ _ _ => True) KPT (fun _ _ _ => trivial) (fun vs => [(some 31, .bool true), (some 32, .bool true), (some 33, .bool true), (some 34, .bool true), (some 35, .bool true), (some 36, .pointer (some ⟨pe, 0, none⟩)), (some 37, .string (mkS path)), (some 38, .bool true), (some 39, .bool true), (some 40, .bool true), (some 41, .pointer (some ⟨pe, 1, none⟩)), (some 42, .int .i64 1), (some 43, .bool true), (some 44, .bool true), (some 45, .bool true), (some 46, .pointer (some ⟨pe, 1, none⟩)), (some 47, .int .i64 1), (some 48, .bool true), (some 49, .bool true), (some 50, .bool true), (some 51, .agg #[.string (mkS path), .int .i64 1, .int .i64 mode, .int .i64 uid, .int .i64 gid, .int .i64 sec, .int .i64 nano, .slice none 0 0, .slice none 0 0, .slice none 0 0, .int .i64 0, .int .u64 0, .int .u64 0, .bool false, .int .i64 0, .int .i64 0, .string (mkS []), .string (mkS target), .int .i64 major, .int .i64 minor]), (some 52, .bool true), (some 53, .bool true), (some 54, .bool true), (some 55, .agg #[.string (mkS path), .int .i64 1, .int .i64 mode, .int .i64 uid, .int .i64 gid, .int .i64 sec, .int .i64 nano, .slice none 0 0, .slice none 0 0, .slice none 0 0, .int .i64 0, .int .u64 0, .int .u64 0, .bool false, .int .i64 0, .int .i64 0, .string (mkS []), .string (mkS target), .int .i64 major, .int .i64 minor]), (some 56, .bool true), (some 57, .bool true), (some 58, .bool true), (some 59, .agg #[.string (mkS path), .int .i64 1, .int .i64 mode, .int .i64 uid, .int .i64 gid, .int .i64 sec, .int .i64 nano, .slice none 0 0, .slice none 0 0, .slice none 0 0, .int .i64 0, .int .u64 0, .int .u64 0, .bool false, .int .i64 0, .int .i64 0, .string (mkS []), .string (mkS target), .int .i64 major, .int .i64 minor]), (some 60, .bool true), (some 61, .bool true), (some 2, .bool true)]) (fun _ => by kernel_rfl) (AllAt.cons ?_ (AllAt.cons ?_ (AllAt.cons ?_ (AllAt.cons ?_ (AllAt.cons ?_ (AllAt.cons ?_ (AllAt.cons ?_ (AllAt.cons ?_ (AllAt.cons ?_ (AllAt.cons ?_ (AllAt.cons ?_ (AllAt.cons ?_ (AllAt.cons ?_ (AllAt.cons ?_ (AllAt.cons ?_ (AllAt.cons ?_ (AllAt.cons ?_ (AllAt.cons ?_ (AllAt.cons ?_ (AllAt.cons ?_ (AllAt.cons ?_ (AllAt.cons ?_ (AllAt.cons ?_ (AllAt.cons ?_ (AllAt.cons ?_ (AllAt.cons ?_ (AllAt.cons ?_ (AllAt.cons ?_ (AllAt.cons ?_ (AllAt.cons ?_ (AllAt.cons ?_ (AllAt.cons ?_ (AllAt.nil))))))))))))))))))))))))))))))))) ?_
    · intro _ L vs a' w' hA hF hG K hK
      have e3 : a'.tmps[3]? = some (.bool true) := hF.old rfl (by kernel_rfl)
      clear hF hA
      go_simp
      exact hK _ _ (hG.next_val KPT rfl trivial (Below.refl _ _))
    · intro _ L vs a' w' hA hF hG K hK
      have e31 : a'.tmps[31]? = some (.bool true) := hG.at hF 0 31 (hA ⟨0, .data⟩ (by simp) rfl) rfl rfl
      clear hF hA
      go_simp
      exact hK _ _ (hG.next_val KPT rfl trivial (Below.refl _ _))
    · intro _ L vs a' w' hA hF hG K hK
      have e4 : a'.tmps[4]? = some (.bool true) := hF.old rfl (by kernel_rfl)
      clear hF hA
      go_simp
      exact hK _ _ (hG.next_val KPT rfl trivial (Below.refl _ _))
    · intro _ L vs a' w' hA hF hG K hK
      have e32 : a'.tmps[32]? = some (.bool true) := hG.at hF 1 32 (hA ⟨1, .data⟩ (by simp) rfl) rfl rfl
      have e33 : a'.tmps[33]? = some (.bool true) := hG.at hF 2 33 (hA ⟨2, .data⟩ (by simp) rfl) rfl rfl
      clear hF hA
      go_simp
      exact hK _ _ (hG.next_val KPT rfl trivial (Below.refl _ _))
    · intro _ L vs a' w' hA hF hG K hK
      have e34 : a'.tmps[34]? = some (.bool true) := hG.at hF 3 34 (hA ⟨3, .data⟩ (by simp) rfl) rfl rfl
      clear hF hA
      go_simp
      exact hK _ _ (hG.next_val KPT rfl trivial (Below.refl _ _))
    · intro _ L vs a' w' hA hF hG K hK
      have e1 : a'.tmps[1]? = some (.pointer (some ⟨pe, 0, none⟩)) := hF.old rfl (by kernel_rfl)
      clear hF hA
      go_simp
      exact hK _ _ (hG.next_val KPT rfl trivial (Below.refl _ _))
    · intro _ L vs a' w' hA hF hG K hK
      have e36 : a'.tmps[36]? = some (.pointer (some ⟨pe, 0, none⟩)) := hG.at hF 5 36 (hA ⟨5, .data⟩ (by simp) rfl) rfl rfl
      have hblk := (hG.below.block pe (blk_lt HE.out)).trans HE.out
      have c0 : w'.cell? ⟨pe, 0, none⟩ = some (.string (mkS path)) := blk_cell hblk 0
      have lg := blk_lt hblk
      clear hblk hF hA
      go_simp
      exact hK _ _ (hG.next_val KPT rfl trivial (Below.refl _ _))
    · intro _ L vs a' w' hA hF hG K hK
      have e37 : a'.tmps[37]? = some (.string (mkS path)) := hG.at hF 6 37 (hA ⟨6, .data⟩ (by simp) rfl) rfl rfl
      have HGW := Aside0.mk (HGB.out _ hG.below)
      clear hF hA
      go_simp
      refine (HP.out _ HGW.out).mono ?_
      rintro x w2 ⟨rfl, hb⟩
      exact hK _ _ (hG.next_val KPT rfl trivial hb)
    · intro _ L vs a' w' hA hF hG K hK
      have e35 : a'.tmps[35]? = some (.bool true) := hG.at hF 4 35 (hA ⟨4, .data⟩ (by simp) rfl) rfl rfl
      have e38 : a'.tmps[38]? = some (.bool true) := hG.at hF 7 38 (hA ⟨7, .data⟩ (by simp) rfl) rfl rfl
      clear hF hA
      go_simp
      exact hK _ _ (hG.next_val KPT rfl trivial (Below.refl _ _))
    · intro _ L vs a' w' hA hF hG K hK
      have e39 : a'.tmps[39]? = some (.bool true) := hG.at hF 8 39 (hA ⟨8, .data⟩ (by simp) rfl) rfl rfl
      clear hF hA
      go_simp
      exact hK _ _ (hG.next_val KPT rfl trivial (Below.refl _ _))
    · intro _ L vs a' w' hA hF hG K hK
      have e1 : a'.tmps[1]? = some (.pointer (some ⟨pe, 0, none⟩)) := hF.old rfl (by kernel_rfl)
      clear hF hA
      go_simp
      exact hK _ _ (hG.next_val KPT rfl trivial (Below.refl _ _))
    · intro _ L vs a' w' hA hF hG K hK
      have e41 : a'.tmps[41]? = some (.pointer (some ⟨pe, 1, none⟩)) := hG.at hF 10 41 (hA ⟨10, .data⟩ (by simp) rfl) rfl rfl
      have hblk := (hG.below.block pe (blk_lt HE.out)).trans HE.out
      have c1 : w'.cell? ⟨pe, 1, none⟩ = some (.int .i64 1) := blk_cell hblk 1
      have lg := blk_lt hblk
      clear hblk hF hA
      go_simp
      exact hK _ _ (hG.next_val KPT rfl trivial (Below.refl _ _))
    · intro _ L vs a' w' hA hF hG K hK
      have e42 : a'.tmps[42]? = some (.int .i64 1) := hG.at hF 11 42 (hA ⟨11, .data⟩ (by simp) rfl) rfl rfl
      clear hF hA
      go_simp
      exact hK _ _ (hG.next_val KPT rfl trivial (Below.refl _ _))
    · intro _ L vs a' w' hA hF hG K hK
      have e40 : a'.tmps[40]? = some (.bool true) := hG.at hF 9 40 (hA ⟨9, .data⟩ (by simp) rfl) rfl rfl
      have e43 : a'.tmps[43]? = some (.bool true) := hG.at hF 12 43 (hA ⟨12, .data⟩ (by simp) rfl) rfl rfl
      clear hF hA
      go_simp
      exact hK _ _ (hG.next_val KPT rfl trivial (Below.refl _ _))
    · intro _ L vs a' w' hA hF hG K hK
      have e44 : a'.tmps[44]? = some (.bool true) := hG.at hF 13 44 (hA ⟨13, .data⟩ (by simp) rfl) rfl rfl
      clear hF hA
      go_simp
      exact hK _ _ (hG.next_val KPT rfl trivial (Below.refl _ _))
    · intro _ L vs a' w' hA hF hG K hK
      have e1 : a'.tmps[1]? = some (.pointer (some ⟨pe, 0, none⟩)) := hF.old rfl (by kernel_rfl)
      clear hF hA
      go_simp
      exact hK _ _ (hG.next_val KPT rfl trivial (Below.refl _ _))
    · intro _ L vs a' w' hA hF hG K hK
      have e46 : a'.tmps[46]? = some (.pointer (some ⟨pe, 1, none⟩)) := hG.at hF 15 46 (hA ⟨15, .data⟩ (by simp) rfl) rfl rfl
      have hblk := (hG.below.block pe (blk_lt HE.out)).trans HE.out
      have c1 : w'.cell? ⟨pe, 1, none⟩ = some (.int .i64 1) := blk_cell hblk 1
      have lg := blk_lt hblk
      clear hblk hF hA
      go_simp
      exact hK _ _ (hG.next_val KPT rfl trivial (Below.refl _ _))
    · intro _ L vs a' w' hA hF hG K hK
      have e47 : a'.tmps[47]? = some (.int .i64 1) := hG.at hF 16 47 (hA ⟨16, .data⟩ (by simp) rfl) rfl rfl
      clear hF hA
      go_simp
      exact hK _ _ (hG.next_val KPT rfl trivial (Below.refl _ _))
    · intro _ L vs a' w' hA hF hG K hK
      have e45 : a'.tmps[45]? = some (.bool true) := hG.at hF 14 45 (hA ⟨14, .data⟩ (by simp) rfl) rfl rfl
      have e48 : a'.tmps[48]? = some (.bool true) := hG.at hF 17 48 (hA ⟨17, .data⟩ (by simp) rfl) rfl rfl
      clear hF hA
      go_simp
      exact hK _ _ (hG.next_val KPT rfl trivial (Below.refl _ _))
    · intro _ L vs a' w' hA hF hG K hK
      have e49 : a'.tmps[49]? = some (.bool true) := hG.at hF 18 49 (hA ⟨18, .data⟩ (by simp) rfl) rfl rfl
      clear hF hA
      go_simp
      exact hK _ _ (hG.next_val KPT rfl trivial (Below.refl _ _))
    · intro _ L vs a' w' hA hF hG K hK
      have e1 : a'.tmps[1]? = some (.pointer (some ⟨pe, 0, none⟩)) := hF.old rfl (by kernel_rfl)
      have hblk := (hG.below.block pe (blk_lt HE.out)).trans HE.out
      clear hF hA
      refine wp_load_row 33 (.tmp 1) rfl pe (by simp [Act.eval, e1]) 33 #[.string (mkS path), .int .i64 1, .int .i64 mode, .int .i64 uid, .int .i64 gid, .int .i64 sec, .int .i64 nano, .slice none 0 0, .slice none 0 0, .slice none 0 0, .int .i64 0, .int .u64 0, .int .u64 0, .bool false, .int .i64 0, .int .i64 0, .string (mkS []), .string (mkS target), .int .i64 major, .int .i64 minor] _ _ hblk Tryz.underlying33 rfl entry_size ?_
      exact hK _ _ (hG.next_val KPT rfl trivial (Below.refl _ _))
    · intro _ L vs a' w' hA hF hG K hK
      have e51 : a'.tmps[51]? = some (.agg #[.string (mkS path), .int .i64 1, .int .i64 mode, .int .i64 uid, .int .i64 gid, .int .i64 sec, .int .i64 nano, .slice none 0 0, .slice none 0 0, .slice none 0 0, .int .i64 0, .int .u64 0, .int .u64 0, .bool false, .int .i64 0, .int .i64 0, .string (mkS []), .string (mkS target), .int .i64 major, .int .i64 minor]) := hG.at hF 20 51 (hA ⟨20, .data⟩ (by simp) rfl) rfl rfl
      have HGW := Aside0.mk (HGB.out _ hG.below)
      clear hF hA
      go_simp
      refine (HT.out _).mono ?_
      rintro x w2 ⟨rfl, hb⟩
      exact hK _ _ (hG.next_val KPT rfl trivial hb)
    · intro _ L vs a' w' hA hF hG K hK
      have e50 : a'.tmps[50]? = some (.bool true) := hG.at hF 19 50 (hA ⟨19, .data⟩ (by simp) rfl) rfl rfl
      have e52 : a'.tmps[52]? = some (.bool true) := hG.at hF 21 52 (hA ⟨21, .data⟩ (by simp) rfl) rfl rfl
      clear hF hA
      go_simp
      exact hK _ _ (hG.next_val KPT rfl trivial (Below.refl _ _))
    · intro _ L vs a' w' hA hF hG K hK
      have e53 : a'.tmps[53]? = some (.bool true) := hG.at hF 22 53 (hA ⟨22, .data⟩ (by simp) rfl) rfl rfl
      clear hF hA
      go_simp
      exact hK _ _ (hG.next_val KPT rfl trivial (Below.refl _ _))
    · intro _ L vs a' w' hA hF hG K hK
      have e1 : a'.tmps[1]? = some (.pointer (some ⟨pe, 0, none⟩)) := hF.old rfl (by kernel_rfl)
      have hblk := (hG.below.block pe (blk_lt HE.out)).trans HE.out
      clear hF hA
      refine wp_load_row 33 (.tmp 1) rfl pe (by simp [Act.eval, e1]) 33 #[.string (mkS path), .int .i64 1, .int .i64 mode, .int .i64 uid, .int .i64 gid, .int .i64 sec, .int .i64 nano, .slice none 0 0, .slice none 0 0, .slice none 0 0, .int .i64 0, .int .u64 0, .int .u64 0, .bool false, .int .i64 0, .int .i64 0, .string (mkS []), .string (mkS target), .int .i64 major, .int .i64 minor] _ _ hblk Tryz.underlying33 rfl entry_size ?_
      exact hK _ _ (hG.next_val KPT rfl trivial (Below.refl _ _))
    · intro _ L vs a' w' hA hF hG K hK
      have e55 : a'.tmps[55]? = some (.agg #[.string (mkS path), .int .i64 1, .int .i64 mode, .int .i64 uid, .int .i64 gid, .int .i64 sec, .int .i64 nano, .slice none 0 0, .slice none 0 0, .slice none 0 0, .int .i64 0, .int .u64 0, .int .u64 0, .bool false, .int .i64 0, .int .i64 0, .string (mkS []), .string (mkS target), .int .i64 major, .int .i64 minor]) := hG.at hF 24 55 (hA ⟨24, .data⟩ (by simp) rfl) rfl rfl
      have HGW := Aside0.mk (HGB.out _ hG.below)
      clear hF hA
      go_simp
      refine (HD.out _).mono ?_
      rintro x w2 ⟨rfl, hb⟩
      exact hK _ _ (hG.next_val KPT rfl trivial hb)
    · intro _ L vs a' w' hA hF hG K hK
      have e54 : a'.tmps[54]? = some (.bool true) := hG.at hF 23 54 (hA ⟨23, .data⟩ (by simp) rfl) rfl rfl
      have e56 : a'.tmps[56]? = some (.bool true) := hG.at hF 25 56 (hA ⟨25, .data⟩ (by simp) rfl) rfl rfl
      clear hF hA
      go_simp
      exact hK _ _ (hG.next_val KPT rfl trivial (Below.refl _ _))
    · intro _ L vs a' w' hA hF hG K hK
      have e57 : a'.tmps[57]? = some (.bool true) := hG.at hF 26 57 (hA ⟨26, .data⟩ (by simp) rfl) rfl rfl
      clear hF hA
      go_simp
      exact hK _ _ (hG.next_val KPT rfl trivial (Below.refl _ _))
    · intro _ L vs a' w' hA hF hG K hK
      have e1 : a'.tmps[1]? = some (.pointer (some ⟨pe, 0, none⟩)) := hF.old rfl (by kernel_rfl)
      have hblk := (hG.below.block pe (blk_lt HE.out)).trans HE.out
      clear hF hA
      refine wp_load_row 33 (.tmp 1) rfl pe (by simp [Act.eval, e1]) 33 #[.string (mkS path), .int .i64 1, .int .i64 mode, .int .i64 uid, .int .i64 gid, .int .i64 sec, .int .i64 nano, .slice none 0 0, .slice none 0 0, .slice none 0 0, .int .i64 0, .int .u64 0, .int .u64 0, .bool false, .int .i64 0, .int .i64 0, .string (mkS []), .string (mkS target), .int .i64 major, .int .i64 minor] _ _ hblk Tryz.underlying33 rfl entry_size ?_
      exact hK _ _ (hG.next_val KPT rfl trivial (Below.refl _ _))
    · intro _ L vs a' w' hA hF hG K hK
      have e59 : a'.tmps[59]? = some (.agg #[.string (mkS path), .int .i64 1, .int .i64 mode, .int .i64 uid, .int .i64 gid, .int .i64 sec, .int .i64 nano, .slice none 0 0, .slice none 0 0, .slice none 0 0, .int .i64 0, .int .u64 0, .int .u64 0, .bool false, .int .i64 0, .int .i64 0, .string (mkS []), .string (mkS target), .int .i64 major, .int .i64 minor]) := hG.at hF 28 59 (hA ⟨28, .data⟩ (by simp) rfl) rfl rfl
      have HGW := Aside0.mk (HGB.out _ hG.below)
      clear hF hA
      go_simp
      refine (HR.out _ HGW.out).mono ?_
      rintro x w2 ⟨rfl, hb⟩
      exact hK _ _ (hG.next_val KPT rfl trivial hb)
    · intro _ L vs a' w' hA hF hG K hK
      have e58 : a'.tmps[58]? = some (.bool true) := hG.at hF 27 58 (hA ⟨27, .data⟩ (by simp) rfl) rfl rfl
      have e60 : a'.tmps[60]? = some (.bool true) := hG.at hF 29 60 (hA ⟨29, .data⟩ (by simp) rfl) rfl rfl
      clear hF hA
      go_simp
      exact hK _ _ (hG.next_val KPT rfl trivial (Below.refl _ _))
    · intro _ L vs a' w' hA hF hG K hK
      have e61 : a'.tmps[61]? = some (.bool true) := hG.at hF 30 61 (hA ⟨30, .data⟩ (by simp) rfl) rfl rfl
      clear hF hA
      go_simp
      exact hK _ _ (hG.next_val KPT rfl trivial (Below.refl _ _))
    intro vs W1 hB _
    simp only [putL, Act.put, List.setIfInBounds_toArray, List.set_cons_zero, List.set_cons_succ]
    go_wp2_with fail
    go_ret
    exact ⟨rfl, BE.out _ hB⟩
  · have e0 : data.isEmpty = false := by cases data with | nil => exact absurd rfl hdt | cons _ _ => rfl
    clear hdt
    go_upto_region 5 with (fail)
    clear e0 c1 c16
    refine wp_region_still (by kernel_rfl) (fun j => ([some (.bool true), some (.bool true), some (.bool true), some (.bool true), some (.bool true), some (.pointer (some ⟨pe, 0, none⟩)), some (.string (mkS path)), some (.bool true), some (.bool true), some (.bool true), some (.pointer (some ⟨pe, 1, none⟩)), some (.int .i64 1), some (.bool true), some (.bool true), some (.bool true), some (.pointer (some ⟨pe, 1, none⟩)), some (.int .i64 1), some (.bool true), some (.bool true), some (.bool true), some (.agg #[.string (mkS path), .int .i64 1, .int .i64 mode, .int .i64 uid, .int .i64 gid, .int .i64 sec, .int .i64 nano, .slice none 0 0, .slice none 0 0, .slice none 0 0, .int .i64 0, .int .u64 0, .int .u64 0, .bool false, .int .i64 0, .int .i64 0, .string (mkS data), .string (mkS target), .int .i64 major, .int .i64 minor]), some (.bool true), some (.bool true), some (.bool true), some (.agg #[.string (mkS path), .int .i64 1, .int .i64 mode, .int .i64 uid, .int .i64 gid, .int .i64 sec, .int .i64 nano, .slice none 0 0, .slice none 0 0, .slice none 0 0, .int .i64 0, .int .u64 0, .int .u64 0, .bool false, .int .i64 0, .int .i64 0, .string (mkS data), .string (mkS target), .int .i64 major, .int .i64 minor]), some (.bool true), some (.bool true), some (.bool true), some (.agg #[.string (mkS path), .int .i64 1, .int .i64 mode, .int .i64 uid, .int .i64 gid, .int .i64 sec, .int .i64 nano, .slice none 0 0, .slice none 0 0, .slice none 0 0, .int .i64 0, .int .u64 0, .int .u64 0, .bool false, .int .i64 0, .int .i64 0, .string (mkS data), .string (mkS target), .int .i64 major, .int .i64 minor]), some (.bool true), some (.bool true), some (.bool true)] : List (Option Value)).getD j none) (fun _ => false) (by kernel_rfl) (fun _ h => (nomatch h)) (fun _ _ _ => True) KPT (fun _ _ _ => trivial) (fun vs => [(some 31, .bool true), (some 32, .bool true), (some 33, .bool true), (some 34, .bool true), (some 35, .bool true), (some 36, .pointer (some ⟨pe, 0, none⟩)), (some 37, .string (mkS path)), (some 38, .bool true), (some 39, .bool true), (some 40, .bool true), (some 41, .pointer (some ⟨pe, 1, none⟩)), (some 42, .int .i64 1), (some 43, .bool true), (some 44, .bool true), (some 45, .bool true), (some 46, .pointer (some ⟨pe, 1, none⟩)), (some 47, .int .i64 1), (some 48, .bool true), (some 49, .bool true), (some 50, .bool true), (some 51, .agg #[.string (mkS path), .int .i64 1, .int .i64 mode, .int .i64 uid, .int .i64 gid, .int .i64 sec, .int .i64 nano, .slice none 0 0, .slice none 0 0, .slice none 0 0, .int .i64 0, .int .u64 0, .int .u64 0, .bool false, .int .i64 0, .int .i64 0, .string (mkS data), .string (mkS target), .int .i64 major, .int .i64 minor]), (some 52, .bool true), (some 53, .bool true), (some 54, .bool true), (some 55, .agg #[.string (mkS path), .int .i64 1, .int .i64 mode, .int .i64 uid, .int .i64 gid, .int .i64 sec, .int .i64 nano, .slice none 0 0, .slice none 0 0, .slice none 0 0, .int .i64 0, .int .u64 0, .int .u64 0, .bool false, .int .i64 0, .int .i64 0, .string (mkS data), .string (mkS target), .int .i64 major, .int .i64 minor]), (some 56, .bool true), (some 57, .bool true), (some 58, .bool true), (some 59, .agg #[.string (mkS path), .int .i64 1, .int .i64 mode, .int .i64 uid, .int .i64 gid, .int .i64 sec, .int .i64 nano, .slice none 0 0, .slice none 0 0, .slice none 0 0, .int .i64 0, .int .u64 0, .int .u64 0, .bool false, .int .i64 0, .int .i64 0, .string (mkS data), .string (mkS target), .int .i64 major, .int .i64 minor]), (some 60, .bool true), (some 61, .bool true), (some 2, .bool true)]) (fun _ => by kernel_rfl) (AllAt.cons ?_ (AllAt.cons ?_ (AllAt.cons ?_ (AllAt.cons ?_ (AllAt.cons ?_ (AllAt.cons ?_ (AllAt.cons ?_ (AllAt.cons ?_ (AllAt.cons ?_ (AllAt.cons ?_ (AllAt.cons ?_ (AllAt.cons ?_ (AllAt.cons ?_ (AllAt.cons ?_ (AllAt.cons ?_ (AllAt.cons ?_ (AllAt.cons ?_ (AllAt.cons ?_ (AllAt.cons ?_ (AllAt.cons ?_ (AllAt.cons ?_ (AllAt.cons ?_ (AllAt.cons ?_ (AllAt.cons ?_ (AllAt.cons ?_ (AllAt.cons ?_ (AllAt.cons ?_ (AllAt.cons ?_ (AllAt.cons ?_ (AllAt.cons ?_ (AllAt.cons ?_ (AllAt.cons ?_ (AllAt.nil))))))))))))))))))))))))))))))))) ?_
    · intro _ L vs a' w' hA hF hG K hK
      have e3 : a'.tmps[3]? = some (.bool true) := hF.old rfl (by kernel_rfl)
      clear hF hA
      go_simp
      exact hK _ _ (hG.next_val KPT rfl trivial (Below.refl _ _))
    · intro _ L vs a' w' hA hF hG K hK
      have e31 : a'.tmps[31]? = some (.bool true) := hG.at hF 0 31 (hA ⟨0, .data⟩ (by simp) rfl) rfl rfl
      clear hF hA
      go_simp
      exact hK _ _ (hG.next_val KPT rfl trivial (Below.refl _ _))
    · intro _ L vs a' w' hA hF hG K hK
      have e4 : a'.tmps[4]? = some (.bool true) := hF.old rfl (by kernel_rfl)
      clear hF hA
      go_simp
      exact hK _ _ (hG.next_val KPT rfl trivial (Below.refl _ _))
    · intro _ L vs a' w' hA hF hG K hK
      have e32 : a'.tmps[32]? = some (.bool true) := hG.at hF 1 32 (hA ⟨1, .data⟩ (by simp) rfl) rfl rfl
      have e33 : a'.tmps[33]? = some (.bool true) := hG.at hF 2 33 (hA ⟨2, .data⟩ (by simp) rfl) rfl rfl
      clear hF hA
      go_simp
      exact hK _ _ (hG.next_val KPT rfl trivial (Below.refl _ _))
    · intro _ L vs a' w' hA hF hG K hK
      have e34 : a'.tmps[34]? = some (.bool true) := hG.at hF 3 34 (hA ⟨3, .data⟩ (by simp) rfl) rfl rfl
      clear hF hA
      go_simp
      exact hK _ _ (hG.next_val KPT rfl trivial (Below.refl _ _))
    · intro _ L vs a' w' hA hF hG K hK
      have e1 : a'.tmps[1]? = some (.pointer (some ⟨pe, 0, none⟩)) := hF.old rfl (by kernel_rfl)
      clear hF hA
      go_simp
      exact hK _ _ (hG.next_val KPT rfl trivial (Below.refl _ _))
    · intro _ L vs a' w' hA hF hG K hK
      have e36 : a'.tmps[36]? = some (.pointer (some ⟨pe, 0, none⟩)) := hG.at hF 5 36 (hA ⟨5, .data⟩ (by simp) rfl) rfl rfl
      have hblk := (hG.below.block pe (blk_lt HE.out)).trans HE.out
      have c0 : w'.cell? ⟨pe, 0, none⟩ = some (.string (mkS path)) := blk_cell hblk 0
      have lg := blk_lt hblk
      clear hblk hF hA
      go_simp
      exact hK _ _ (hG.next_val KPT rfl trivial (Below.refl _ _))
    · intro _ L vs a' w' hA hF hG K hK
      have e37 : a'.tmps[37]? = some (.string (mkS path)) := hG.at hF 6 37 (hA ⟨6, .data⟩ (by simp) rfl) rfl rfl
      have HGW := Aside0.mk (HGB.out _ hG.below)
      clear hF hA
      go_simp
      refine (HP.out _ HGW.out).mono ?_
      rintro x w2 ⟨rfl, hb⟩
      exact hK _ _ (hG.next_val KPT rfl trivial hb)
    · intro _ L vs a' w' hA hF hG K hK
      have e35 : a'.tmps[35]? = some (.bool true) := hG.at hF 4 35 (hA ⟨4, .data⟩ (by simp) rfl) rfl rfl
      have e38 : a'.tmps[38]? = some (.bool true) := hG.at hF 7 38 (hA ⟨7, .data⟩ (by simp) rfl) rfl rfl
      clear hF hA
      go_simp
      exact hK _ _ (hG.next_val KPT rfl trivial (Below.refl _ _))
    · intro _ L vs a' w' hA hF hG K hK
      have e39 : a'.tmps[39]? = some (.bool true) := hG.at hF 8 39 (hA ⟨8, .data⟩ (by simp) rfl) rfl rfl
      clear hF hA
      go_simp
      exact hK _ _ (hG.next_val KPT rfl trivial (Below.refl _ _))
    · intro _ L vs a' w' hA hF hG K hK
      have e1 : a'.tmps[1]? = some (.pointer (some ⟨pe, 0, none⟩)) := hF.old rfl (by kernel_rfl)
      clear hF hA
      go_simp
      exact hK _ _ (hG.next_val KPT rfl trivial (Below.refl _ _))
    · intro _ L vs a' w' hA hF hG K hK
      have e41 : a'.tmps[41]? = some (.pointer (some ⟨pe, 1, none⟩)) := hG.at hF 10 41 (hA ⟨10, .data⟩ (by simp) rfl) rfl rfl
      have hblk := (hG.below.block pe (blk_lt HE.out)).trans HE.out
      have c1 : w'.cell? ⟨pe, 1, none⟩ = some (.int .i64 1) := blk_cell hblk 1
      have lg := blk_lt hblk
      clear hblk hF hA
      go_simp
      exact hK _ _ (hG.next_val KPT rfl trivial (Below.refl _ _))
    · intro _ L vs a' w' hA hF hG K hK
      have e42 : a'.tmps[42]? = some (.int .i64 1) := hG.at hF 11 42 (hA ⟨11, .data⟩ (by simp) rfl) rfl rfl
      clear hF hA
      go_simp
      exact hK _ _ (hG.next_val KPT rfl trivial (Below.refl _ _))
    · intro _ L vs a' w' hA hF hG K hK
      have e40 : a'.tmps[40]? = some (.bool true) := hG.at hF 9 40 (hA ⟨9, .data⟩ (by simp) rfl) rfl rfl
      have e43 : a'.tmps[43]? = some (.bool true) := hG.at hF 12 43 (hA ⟨12, .data⟩ (by simp) rfl) rfl rfl
      clear hF hA
      go_simp
      exact hK _ _ (hG.next_val KPT rfl trivial (Below.refl _ _))
    · intro _ L vs a' w' hA hF hG K hK
      have e44 : a'.tmps[44]? = some (.bool true) := hG.at hF 13 44 (hA ⟨13, .data⟩ (by simp) rfl) rfl rfl
      clear hF hA
      go_simp
      exact hK _ _ (hG.next_val KPT rfl trivial (Below.refl _ _))
    · intro _ L vs a' w' hA hF hG K hK
      have e1 : a'.tmps[1]? = some (.pointer (some ⟨pe, 0, none⟩)) := hF.old rfl (by kernel_rfl)
      clear hF hA
      go_simp
      exact hK _ _ (hG.next_val KPT rfl trivial (Below.refl _ _))
    · intro _ L vs a' w' hA hF hG K hK
      have e46 : a'.tmps[46]? = some (.pointer (some ⟨pe, 1, none⟩)) := hG.at hF 15 46 (hA ⟨15, .data⟩ (by simp) rfl) rfl rfl
      have hblk := (hG.below.block pe (blk_lt HE.out)).trans HE.out
      have c1 : w'.cell? ⟨pe, 1, none⟩ = some (.int .i64 1) := blk_cell hblk 1
      have lg := blk_lt hblk
      clear hblk hF hA
      go_simp
      exact hK _ _ (hG.next_val KPT rfl trivial (Below.refl _ _))
    · intro _ L vs a' w' hA hF hG K hK
      have e47 : a'.tmps[47]? = some (.int .i64 1) := hG.at hF 16 47 (hA ⟨16, .data⟩ (by simp) rfl) rfl rfl
      clear hF hA
      go_simp
      exact hK _ _ (hG.next_val KPT rfl trivial (Below.refl _ _))
    · intro _ L vs a' w' hA hF hG K hK
      have e45 : a'.tmps[45]? = some (.bool true) := hG.at hF 14 45 (hA ⟨14, .data⟩ (by simp) rfl) rfl rfl
      have e48 : a'.tmps[48]? = some (.bool true) := hG.at hF 17 48 (hA ⟨17, .data⟩ (by simp) rfl) rfl rfl
      clear hF hA
      go_simp
      exact hK _ _ (hG.next_val KPT rfl trivial (Below.refl _ _))
    · intro _ L vs a' w' hA hF hG K hK
      have e49 : a'.tmps[49]? = some (.bool true) := hG.at hF 18 49 (hA ⟨18, .data⟩ (by simp) rfl) rfl rfl
      clear hF hA
      go_simp
      exact hK _ _ (hG.next_val KPT rfl trivial (Below.refl _ _))
    · intro _ L vs a' w' hA hF hG K hK
      have e1 : a'.tmps[1]? = some (.pointer (some ⟨pe, 0, none⟩)) := hF.old rfl (by kernel_rfl)
      have hblk := (hG.below.block pe (blk_lt HE.out)).trans HE.out
      clear hF hA
      refine wp_load_row 33 (.tmp 1) rfl pe (by simp [Act.eval, e1]) 33 #[.string (mkS path), .int .i64 1, .int .i64 mode, .int .i64 uid, .int .i64 gid, .int .i64 sec, .int .i64 nano, .slice none 0 0, .slice none 0 0, .slice none 0 0, .int .i64 0, .int .u64 0, .int .u64 0, .bool false, .int .i64 0, .int .i64 0, .string (mkS data), .string (mkS target), .int .i64 major, .int .i64 minor] _ _ hblk Tryz.underlying33 rfl entry_size ?_
      exact hK _ _ (hG.next_val KPT rfl trivial (Below.refl _ _))
    · intro _ L vs a' w' hA hF hG K hK
      have e51 : a'.tmps[51]? = some (.agg #[.string (mkS path), .int .i64 1, .int .i64 mode, .int .i64 uid, .int .i64 gid, .int .i64 sec, .int .i64 nano, .slice none 0 0, .slice none 0 0, .slice none 0 0, .int .i64 0, .int .u64 0, .int .u64 0, .bool false, .int .i64 0, .int .i64 0, .string (mkS data), .string (mkS target), .int .i64 major, .int .i64 minor]) := hG.at hF 20 51 (hA ⟨20, .data⟩ (by simp) rfl) rfl rfl
      have HGW := Aside0.mk (HGB.out _ hG.below)
      clear hF hA
      go_simp
      refine (HT.out _).mono ?_
      rintro x w2 ⟨rfl, hb⟩
      exact hK _ _ (hG.next_val KPT rfl trivial hb)
    · intro _ L vs a' w' hA hF hG K hK
      have e50 : a'.tmps[50]? = some (.bool true) := hG.at hF 19 50 (hA ⟨19, .data⟩ (by simp) rfl) rfl rfl
      have e52 : a'.tmps[52]? = some (.bool true) := hG.at hF 21 52 (hA ⟨21, .data⟩ (by simp) rfl) rfl rfl
      clear hF hA
      go_simp
      exact hK _ _ (hG.next_val KPT rfl trivial (Below.refl _ _))
    · intro _ L vs a' w' hA hF hG K hK
      have e53 : a'.tmps[53]? = some (.bool true) := hG.at hF 22 53 (hA ⟨22, .data⟩ (by simp) rfl) rfl rfl
      clear hF hA
      go_simp
      exact hK _ _ (hG.next_val KPT rfl trivial (Below.refl _ _))
    · intro _ L vs a' w' hA hF hG K hK
      have e1 : a'.tmps[1]? = some (.pointer (some ⟨pe, 0, none⟩)) := hF.old rfl (by kernel_rfl)
      have hblk := (hG.below.block pe (blk_lt HE.out)).trans HE.out
      clear hF hA
      refine wp_load_row 33 (.tmp 1) rfl pe (by simp [Act.eval, e1]) 33 #[.string (mkS path), .int .i64 1, .int .i64 mode, .int .i64 uid, .int .i64 gid, .int .i64 sec, .int .i64 nano, .slice none 0 0, .slice none 0 0, .slice none 0 0, .int .i64 0, .int .u64 0, .int .u64 0, .bool false, .int .i64 0, .int .i64 0, .string (mkS data), .string (mkS target), .int .i64 major, .int .i64 minor] _ _ hblk Tryz.underlying33 rfl entry_size ?_
      exact hK _ _ (hG.next_val KPT rfl trivial (Below.refl _ _))
    · intro _ L vs a' w' hA hF hG K hK
      have e55 : a'.tmps[55]? = some (.agg #[.string (mkS path), .int .i64 1, .int .i64 mode, .int .i64 uid, .int .i64 gid, .int .i64 sec, .int .i64 nano, .slice none 0 0, .slice none 0 0, .slice none 0 0, .int .i64 0, .int .u64 0, .int .u64 0, .bool false, .int .i64 0, .int .i64 0, .string (mkS data), .string (mkS target), .int .i64 major, .int .i64 minor]) := hG.at hF 24 55 (hA ⟨24, .data⟩ (by simp) rfl) rfl rfl
      have HGW := Aside0.mk (HGB.out _ hG.below)
      clear hF hA
      go_simp
      refine (HD.out _).mono ?_
      rintro x w2 ⟨rfl, hb⟩
      exact hK _ _ (hG.next_val KPT rfl trivial hb)
    · intro _ L vs a' w' hA hF hG K hK
      have e54 : a'.tmps[54]? = some (.bool true) := hG.at hF 23 54 (hA ⟨23, .data⟩ (by simp) rfl) rfl rfl
      have e56 : a'.tmps[56]? = some (.bool true) := hG.at hF 25 56 (hA ⟨25, .data⟩ (by simp) rfl) rfl rfl
      clear hF hA
      go_simp
      exact hK _ _ (hG.next_val KPT rfl trivial (Below.refl _ _))
    · intro _ L vs a' w' hA hF hG K hK
      have e57 : a'.tmps[57]? = some (.bool true) := hG.at hF 26 57 (hA ⟨26, .data⟩ (by simp) rfl) rfl rfl
      clear hF hA
      go_simp
      exact hK _ _ (hG.next_val KPT rfl trivial (Below.refl _ _))
    · intro _ L vs a' w' hA hF hG K hK
      have e1 : a'.tmps[1]? = some (.pointer (some ⟨pe, 0, none⟩)) := hF.old rfl (by kernel_rfl)
      have hblk := (hG.below.block pe (blk_lt HE.out)).trans HE.out
      clear hF hA
      refine wp_load_row 33 (.tmp 1) rfl pe (by simp [Act.eval, e1]) 33 #[.string (mkS path), .int .i64 1, .int .i64 mode, .int .i64 uid, .int .i64 gid, .int .i64 sec, .int .i64 nano, .slice none 0 0, .slice none 0 0, .slice none 0 0, .int .i64 0, .int .u64 0, .int .u64 0, .bool false, .int .i64 0, .int .i64 0, .string (mkS data), .string (mkS target), .int .i64 major, .int .i64 minor] _ _ hblk Tryz.underlying33 rfl entry_size ?_
      exact hK _ _ (hG.next_val KPT rfl trivial (Below.refl _ _))
    · intro _ L vs a' w' hA hF hG K hK
      have e59 : a'.tmps[59]? = some (.agg #[.string (mkS path), .int .i64 1, .int .i64 mode, .int .i64 uid, .int .i64 gid, .int .i64 sec, .int .i64 nano, .slice none 0 0, .slice none 0 0, .slice none 0 0, .int .i64 0, .int .u64 0, .int .u64 0, .bool false, .int .i64 0, .int .i64 0, .string (mkS data), .string (mkS target), .int .i64 major, .int .i64 minor]) := hG.at hF 28 59 (hA ⟨28, .data⟩ (by simp) rfl) rfl rfl
      have HGW := Aside0.mk (HGB.out _ hG.below)
      clear hF hA
      go_simp
      refine (HR.out _ HGW.out).mono ?_
      rintro x w2 ⟨rfl, hb⟩
      exact hK _ _ (hG.next_val KPT rfl trivial hb)
    · intro _ L vs a' w' hA hF hG K hK
      have e58 : a'.tmps[58]? = some (.bool true) := hG.at hF 27 58 (hA ⟨27, .data⟩ (by simp) rfl) rfl rfl
      have e60 : a'.tmps[60]? = some (.bool true) := hG.at hF 29 60 (hA ⟨29, .data⟩ (by simp) rfl) rfl rfl
      clear hF hA
      go_simp
      exact hK _ _ (hG.next_val KPT rfl trivial (Below.refl _ _))
    · intro _ L vs a' w' hA hF hG K hK
      have e61 : a'.tmps[61]? = some (.bool true) := hG.at hF 30 61 (hA ⟨30, .data⟩ (by simp) rfl) rfl rfl
      clear hF hA
      go_simp
      exact hK _ _ (hG.next_val KPT rfl trivial (Below.refl _ _))
    intro vs W1 hB _
    simp only [putL, Act.put, List.setIfInBounds_toArray, List.set_cons_zero, List.set_cons_succ]
    go_wp2_with fail
    go_ret
    exact ⟨rfl, BE.out _ hB⟩
end Go.Proofs.YtbjbnipjeehaoaaGreatDoor
