/- head.May. -/
import Derived.Test.YtpmiddhdgidimaaGreatDoorHeadMayPlain
import Derived.Test.YtpmiddhdgidimaaGreatDoorMapTape
import Derived.Laws.IdiomRangeMap
set_option linter.unusedVariables false
set_option linter.unusedSimpArgs false
namespace Go.Proofs.YtpmiddhdgidimaaGreatDoor
open Go.RowKit Go.Proofs.YtpmiddhdgidimaaGreatDoorW.PrintWords

theorem contains_zero (l : List UInt8) (b : Bool) (h : l.contains 0 = b) (w : World) :
    Calls Tryz.prog 25 #[.string (mkS l), .string ⟨#[0]⟩] w fun e w' => e = .returned (.bool b) ∧ w' = w := by
  have h1 := Tryz.strings_Contains_one (mkS l) 0 w
  rw [data_mkS, indexByte_contains, h] at h1
  exact h1
theorem Field_is (n : Int) (wd : Nat) (o : Option (List UInt8)) (h : fieldT n wd = o) (w : World) (hw : wd = 8 ∨ wd = 12) (hr : -9223372036854775808 ≤ n ∧ n ≤ 9223372036854775807) :
    Calls Tryz.prog 26 #[.int .i64 n, .int .i64 (wd : Int)] w fun e w' => e = .returned (saidV o) ∧ Below w.heap.size w w' := by
  subst h; exact Field_any n wd w hw hr.1 hr.2
/-- What May answers. -/
def MayDone (h : Hd) (w : World) (e : Ending) (w' : World) : Prop := e = .returned (.bool (mayH h)) ∧ Below w.heap.size w w'
set_option maxHeartbeats 4000000 in
set_option maxRecDepth 100000 in
theorem may_done (h : Hd) (w : World) (hf : Fits h) :
    Calls Tryz.prog 9 #[.agg (hdCells h)] w (MayDone h w) := by
  have HENT := Aside0.mk (entry_fits hf)
  have HI := Aside0.mk hf.ints
  have HT := Aside0.mk (fun W => texts_any h W hf)
  have HB0 := Aside0.mk (below_alloc (Below.refl w.heap.size w) (.cells (hdCells h) 23))
  have g0 := heap_alloc_new w (.cells (hdCells h) 23)
  have HNUM := Aside0.mk (fun (n : Int) (hm : n ∈ numsL h) (hn : numOk n = false) => mayH_no_num hm hn)
  have HTEXT := Aside0.mk (fun (ht : textsOk h = false) => mayH_no_text ht)
  have HREST := Aside0.mk (fun (ht : textsOk h = true) (hn : ∀ n ∈ numsL h, numOk n = true) => mayH_rest ht hn)
  have HALL := Aside0.mk (ents_all h)
  clear hf
  obtain ⟨ents, hents⟩ : ∃ x, x = textEntries h := ⟨_, rfl⟩
  obtain ⟨tok, htok⟩ : ∃ x, x = textsOk h := ⟨_, rfl⟩
  obtain ⟨res, hres⟩ : ∃ x, x = mayH h := ⟨_, rfl⟩
  rw [← hents] at HENT HT HALL
  rw [← htok] at HALL HTEXT HREST
  rw [← hres] at HNUM HTEXT HREST
  have HD : Aside0 (∀ e w', e = .returned (.bool res) → Below w.heap.size w w' → MayDone h w e w') := ⟨fun e w' h1 h2 => ⟨hres ▸ h1, h2⟩⟩
  clear hents htok hres
  obtain ⟨R, hR⟩ : ∃ R, R = MayDone h w := ⟨_, rfl⟩
  rw [← hR] at HD ⊢
  clear hR
  obtain ⟨name, mode, uid, gid, size, mtime, typ, link, uname, gname, major, minor, pre⟩ := h
  unfold hdCells at HT HB0 g0 ⊢
  unfold numsL at HNUM HREST
  simp only at HT HB0 g0 HNUM HREST ⊢
  have hI := HI.out
  obtain ⟨i1, i2, i3, i4, i5, i6, i7⟩ := hI
  simp only at i1 i2 i3 i4 i5 i6 i7
  have I1 := Aside0.mk i1
  have I2 := Aside0.mk i2
  have I3 := Aside0.mk i3
  have I4 := Aside0.mk i4
  have I5 := Aside0.mk i5
  have I6 := Aside0.mk i6
  have I7 := Aside0.mk i7
  clear i1 i2 i3 i4 i5 i6 i7 HI
  go_enter Tryz.func9, Tryz.ntmps9
  go_wp2_with (go_at_call 24; refine (HT.out _).mono ?_; rintro e w1 ⟨g, L, rfl, hL, hm, hg, hb1⟩; obtain ⟨es, clock, hbm, hes, hst⟩ := hL.ex; have hrg := run_range_map (P := Tryz.prog) w1 55 9 3 g es clock Tryz.underlying55 hbm)
  have HB1 := Aside0.mk (below_next HB0.out hb1)
  have g1 := Aside0.mk ((hb1.block _ (blk_lt g0)).trans g0)
  have HALLL := Aside0.mk (HALL.out L hm)
  have HES : Aside0 (∀ x ∈ es.toList, ∃ t ∈ L, x.key = .string (mkS t.1) ∧ x.val = .int .i64 t.2) := ⟨fun x hx => by
    have : (x.key, x.val) ∈ es.toList.map (fun x => (x.key, x.val)) := List.mem_map.2 ⟨x, hx, rfl⟩
    rw [hes] at this
    obtain ⟨t, ht, he⟩ := List.mem_map.1 this
    exact ⟨t, ht, (congrArg Prod.fst he).symm, (congrArg Prod.snd he).symm⟩⟩
  have HES2 : Aside0 (∀ t ∈ L, ∃ x ∈ es.toList, x.key = .string (mkS t.1) ∧ x.val = .int .i64 t.2) := ⟨fun t ht => by
    have : (Value.string (mkS t.1), Value.int .i64 t.2) ∈ L.map (fun t => (Value.string (mkS t.1), Value.int .i64 t.2)) := List.mem_map.2 ⟨t, ht, rfl⟩
    rw [← hes] at this
    obtain ⟨x, hx, he⟩ := List.mem_map.1 this
    exact ⟨x, hx, congrArg Prod.fst he, congrArg Prod.snd he⟩⟩
  have HENL : Aside0 (∀ t ∈ L, t.1.length ≤ 140737488351233 ∧ 0 ≤ t.2 ∧ t.2 ≤ 155) := ⟨fun t ht => HENT.out t ((hm t).1 ht)⟩
  clear hb1 g0 HT HB0 hg hL hm hes HALL HENT
  go_loopw [] (fun w' => ∃ (w2 : World) (seen : Array Nat), w2.Alike w1 ∧ Aside0 (w2.tape = w1.tape) ∧ w' = w2.alloc (.mapIter (some g) clock seen clock) ∧ Aside0 (∀ x ∈ es.toList, seen.contains x.born = true → ∀ t ∈ L, x.key = .string (mkS t.1) → x.val = .int .i64 t.2 → entOk t = true)) (fun w' => (leftOf es (w'.iterSeen w1.heap.size)).size)
  case atStart => exact ⟨w1, #[], ⟨rfl, rfl, rfl⟩, ⟨rfl⟩, rfl, ⟨fun x _ h => by simp at h⟩⟩
  case round =>
    obtain ⟨w2, seen, hal, ht, rfl, hno⟩ := hrel
    have hsz : w2.heap.size = w1.heap.size := by rw [hal.1]
    have hb2 : w2.heap[g]? = some (.map es clock) := by rw [hal.1]; exact hbm
    have law := run_next_map (P := Tryz.prog) w2 0 g clock clock seen es clock hb2 hst.1 (Nat.le_refl _)
    rw [hsz] at law
    rcases law with ⟨h0, hrun⟩ | ⟨e, he, w3, hal3, hrun⟩
    · have hnx : ∀ ty, (Instr.next (.pointer (some ⟨w1.heap.size, 0, none⟩)) false ty).run Tryz.prog (w2.alloc (.mapIter (some g) clock seen clock)) = _ := fun _ => hrun
      have g2' : w2.heap[w.heap.size]? = w1.heap[w.heap.size]? := by rw [hal.1]
      have g2 := Aside0.mk (g2'.trans g1.out)
      clear g2'
      have c1 : w2.cell? ⟨w.heap.size, 1, none⟩ = some (.int .i64 mode) := blk_cell g2.out 1
      have c2 : w2.cell? ⟨w.heap.size, 2, none⟩ = some (.int .i64 uid) := blk_cell g2.out 2
      have c3 : w2.cell? ⟨w.heap.size, 3, none⟩ = some (.int .i64 gid) := blk_cell g2.out 3
      have c10 : w2.cell? ⟨w.heap.size, 10, none⟩ = some (.int .i64 major) := blk_cell g2.out 10
      have c11 : w2.cell? ⟨w.heap.size, 11, none⟩ = some (.int .i64 minor) := blk_cell g2.out 11
      have l2 := blk_lt g2.out
      have HTOK : Aside0 (tok = true) := ⟨by
        rw [← HALLL.out, List.all_eq_true]
        intro t ht
        obtain ⟨x, hx, k1, k2⟩ := HES2.out t ht
        exact hno.out x hx (all_seen es seen h0 x hx) t ht k1 k2⟩
      have HB2 : Aside0 (Below w.heap.size w w2) := ⟨HB1.out.trans ⟨hal.2.1, ht.out, hal.2.2, by omega, fun k _ => by rw [hal.1]⟩⟩
      clear hsz hrun h0 hno ht HES HES2 HENL HALLL hal hst hbm hb2 g1 HB1
      go_wp2_with fail
      have N0 := heap_alloc_new (w2.alloc (.mapIter (some g) clock seen clock)) (.cells #[.int .i64 mode, .int .i64 uid, .int .i64 gid, .int .i64 major, .int .i64 minor] 3)
      rw [show (w2.alloc (.mapIter (some g) clock seen clock)).heap.size = w2.heap.size + 1 by simp] at N0
      have G0 := blk_alloc (blk_alloc g2.out (.mapIter (some g) clock seen clock)) (.cells #[.int .i64 mode, .int .i64 uid, .int .i64 gid, .int .i64 major, .int .i64 minor] 3)
      have B0 := below_alloc (below_alloc HB2.out (.mapIter (some g) clock seen clock)) (.cells #[.int .i64 mode, .int .i64 uid, .int .i64 gid, .int .i64 major, .int .i64 minor] 3)
      clear hnx g2 c1 c2 c3 c10 c11 HB2
      generalize (w2.alloc (.mapIter (some g) clock seen clock)).alloc (.cells #[.int .i64 mode, .int .i64 uid, .int .i64 gid, .int .i64 major, .int .i64 minor] 3) = W0 at N0 G0 B0 ⊢
      generalize w2.heap.size + 1 = k at N0 ⊢
      clear l2
      have HBW := Aside0.mk B0
      have HGW := Aside0.mk G0
      have HC : Aside0 (∀ i : Nat, i < 5 → ∃ n, n ∈ [mode, uid, gid, major, minor] ∧ [mode, uid, gid, major, minor][i]? = some n ∧ W0.cell? ⟨k, i, none⟩ = some (.int .i64 n) ∧ (-9223372036854775808 ≤ n ∧ n ≤ 9223372036854775807)) := ⟨by
        intro i hi
        have : i = 0 ∨ i = 1 ∨ i = 2 ∨ i = 3 ∨ i = 4 := by omega
        rcases this with rfl | rfl | rfl | rfl | rfl
        · exact ⟨mode, by simp, rfl, blk_cell N0 0, I1.out⟩
        · exact ⟨uid, by simp, rfl, blk_cell N0 1, I2.out⟩
        · exact ⟨gid, by simp, rfl, blk_cell N0 2, I3.out⟩
        · exact ⟨major, by simp, rfl, blk_cell N0 3, I6.out⟩
        · exact ⟨minor, by simp, rfl, blk_cell N0 4, I7.out⟩⟩
      have hkl := Aside0.mk (blk_lt N0)
      clear N0 G0 B0
      go_loopw [42] (fun v wr => ∃ i : Nat, i ≤ 5 ∧ v = .int .i64 (i : Int) ∧ Aside0 (∀ j : Nat, j < i → ∀ n, [mode, uid, gid, major, minor][j]? = some n → numOk n = true) ∧ Aside0 (Below W0.heap.size W0 wr)) (fun v _ => 5 - (intOf v).toNat)
      case atStart => exact ⟨0, by omega, rfl, ⟨fun j hj => by omega⟩, ⟨Below.refl _ _⟩⟩
      case round =>
        obtain ⟨i, hi5, rfl, hok, HBR⟩ := hrel
        by_cases hlt : i < 5
        · obtain ⟨n, hmem, hget, hc0, hrn⟩ := HC.out i hlt
          have hcell : wr.cell? ⟨k, i, none⟩ = some (.int .i64 n) := by
            have := HBR.out.block _ hkl.out
            simp only [World.cell?, this] at hc0 ⊢
            exact hc0
          clear hc0
          have q1 : (i : Int) < 5 := by omega
          cases hf : fieldT n 8 with
          | none =>
            have HF := Aside0.mk hf
            have HRES := Aside0.mk (HNUM.out n hmem (by unfold numOk; rw [hf]; rfl))
            clear hf
            go_wp2_with (go_at_call 26; refine (Field_is n 8 none HF.out _ (.inl rfl) hrn).mono ?_; rintro e w5 ⟨rfl, hb5⟩; simp only [saidV])
            exact HD.out _ _ (by rw [HRES.out]; rfl) (HBW.out.trans ((below_next HBR.out hb5).mono HBW.out.size))
          | some l =>
            have HF := Aside0.mk hf
            by_cases hneg : n < 0
            · have HRES := Aside0.mk (HNUM.out n hmem (by unfold numOk; rw [hf]; simp; omega))
              clear hf
              go_wp2_with (go_at_call 26; refine (Field_is n 8 (some l) HF.out _ (.inl rfl) hrn).mono ?_; rintro e w5 ⟨rfl, hb5⟩; simp only [saidV])
              exact HD.out _ _ (by rw [HRES.out]; rfl) (HBW.out.trans ((below_next HBR.out hb5).mono HBW.out.size))
            · have HOK := Aside0.mk (show numOk n = true by unfold numOk; rw [hf]; simp; omega)
              clear hf
              go_wp2_with (go_at_call 26; refine (Field_is n 8 (some l) HF.out _ (.inl rfl) hrn).mono ?_; rintro e w5 ⟨rfl, hb5⟩; simp only [saidV])
              go_roundw
              case measure => simp [intOf]; omega
              case rel => exact ⟨i + 1, by omega, by go_num, ⟨fun j hj m hm => by
                  rcases Nat.lt_succ_iff_lt_or_eq.1 hj with h | rfl
                  · exact hok.out j h m hm
                  · rw [hget] at hm; injection hm with hm; rw [← hm]; exact HOK.out⟩, ⟨below_next HBR.out hb5⟩⟩
        · have q1 : ¬ (i : Int) < 5 := by omega
          obtain rfl : i = 5 := by omega
          have HRR := Aside0.mk (HREST.out HTOK.out (fun n hn => by
            obtain ⟨j, hj⟩ := List.mem_iff_getElem?.1 hn
            exact hok.out j (by have := (List.getElem?_eq_some_iff.1 hj).1; simpa using this) n hj))
          have G4 := Aside0.mk ((HBR.out.block _ (blk_lt HGW.out)).trans HGW.out)
          have c4 : wr.cell? ⟨w.heap.size, 4, none⟩ = some (.int .i64 size) := blk_cell G4.out 4
          have c5 : wr.cell? ⟨w.heap.size, 5, none⟩ = some (.int .i64 mtime) := blk_cell G4.out 5
          have l4 := blk_lt G4.out
          clear hok HC HREST HNUM
          have b5 := Aside0.mk (HBW.out.trans (HBR.out.mono HBW.out.size))
          obtain ⟨o1, hf1⟩ : ∃ o, fieldT size 12 = o := ⟨_, rfl⟩
          obtain ⟨o2, hf2⟩ : ∃ o, fieldT mtime 12 = o := ⟨_, rfl⟩
          simp only [hf1, hf2] at HRR
          have HF1 := Aside0.mk hf1
          have HF2 := Aside0.mk hf2
          clear hf1 hf2
          rcases o1 with _ | s1 <;> rcases o2 with _ | s2
          all_goals
            simp only [Option.isSome_none, Option.isSome_some, Bool.and_false, Bool.false_and, Bool.true_and, Bool.and_true] at HRR
            go_wp2_with fail
            refine (Field_is size 12 _ HF1.out _ (.inr rfl) I4.out).mono ?_
            rintro e w5 ⟨rfl, hb5⟩
            simp only [saidV]
            have G5 := Aside0.mk ((hb5.block _ (blk_lt G4.out)).trans G4.out)
            have d4 : w5.cell? ⟨w.heap.size, 4, none⟩ = some (.int .i64 size) := blk_cell G5.out 4
            have d5 : w5.cell? ⟨w.heap.size, 5, none⟩ = some (.int .i64 mtime) := blk_cell G5.out 5
            have l5 := blk_lt G5.out
            have b6 := Aside0.mk (below_next b5.out hb5)
            clear hb5
            go_wp2_with fail
            refine (Field_is mtime 12 _ HF2.out _ (.inr rfl) I5.out).mono ?_
            rintro e w6 ⟨rfl, hb6⟩
            simp only [saidV]
            have G6 := Aside0.mk ((hb6.block _ (blk_lt G5.out)).trans G5.out)
            have e4 : w6.cell? ⟨w.heap.size, 4, none⟩ = some (.int .i64 size) := blk_cell G6.out 4
            have l6 := blk_lt G6.out
            have b7 := Aside0.mk (below_next b6.out hb6)
            clear hb6
            go_wp2
            exact HD.out _ _ (by rw [HRR.out]; rfl) b7.out
    · obtain ⟨t, htL, hk, hv⟩ := HES.out e (mem_left he).1
      have HTL := Aside0.mk htL
      have hfit := HENL.out t htL
      rw [hk, hv] at hrun
      have hnx : ∀ ty, (Instr.next (.pointer (some ⟨w1.heap.size, 0, none⟩)) false ty).run Tryz.prog (w2.alloc (.mapIter (some g) clock seen clock)) = _ := fun _ => hrun
      have hi0 := heap_alloc_new w2 (.mapIter (some g) clock seen clock)
      rw [hsz] at hi0
      have htp0 := next_tape hi0 (blk_alloc hb2 (.mapIter (some g) clock seen clock)) hrun
      have htp : w3.tape = w2.tape := htp0
      clear hi0 htp0
      have hsz2 : w3.heap.size = w1.heap.size := by rw [hal3.1, hal.1]
      have hb3 : w3.heap[g]? = some (.map es clock) := by rw [hal3.1]; exact hb2
      have hen := run_entry_map (P := Tryz.prog) w3 g clock seen es clock e hb3 (mem_left he).1 hst.2.1
      rw [hsz2, hk, hv] at hen
      have hal4 : w3.Alike w1 := ⟨hal3.1.trans hal.1, hal3.2.1.trans hal.2.1, hal3.2.2.trans hal.2.2⟩
      have HT3 := Aside0.mk (htp.trans ht.out)
      have HB3 : Aside0 (Below w.heap.size w w3) := ⟨HB1.out.trans ⟨hal4.2.1, HT3.out, hal4.2.2, by omega, fun k _ => by rw [hal4.1]⟩⟩
      have HAL4 := Aside0.mk hal4
      have HE := Aside0.mk he
      have HNO := Aside0.mk hno.out
      have HK := Aside0.mk hk
      have HV := Aside0.mk hv
      have HSZ2 := Aside0.mk hsz2
      have HSZ := Aside0.mk hsz
      have HST := Aside0.mk hst
      have HBAD : Aside0 (entOk t = false → res = false) := ⟨fun hx => HTEXT.out (by
        rw [← HALLL.out]
        exact List.all_eq_false.2 ⟨t, HTL.out, by rw [hx]; decide⟩)⟩
      have HEO := Aside0.mk (entOk_not t)
      clear hal4 htp hb3 he hk hv hal3 hal ht htL hst hno
      obtain ⟨s, mx⟩ := t
      simp only at hfit hrun hnx hen HEO
      obtain ⟨f1, f2, f3⟩ := hfit
      have q0 : IntKind.i64.wrap ((s.length : Int) - 1) = (s.length : Int) - 1 := by simp only [IntKind.wrap_i64]; omega
      by_cases hgt : mx < (s.length : Int) - 1
      · have HR : Aside0 (res = false) := ⟨HBAD.out (by rw [HEO.out, decide_eq_true hgt]; rfl)⟩
        go_wp2_with fail
        exact HD.out _ _ (by rw [HR.out]) (below_alloc HB3.out _)
      · obtain ⟨b, hb⟩ : ∃ b, s.contains 0 = b := ⟨_, rfl⟩
        have HC := Aside0.mk hb
        rw [hb, decide_eq_false hgt, Bool.false_or] at HEO
        clear hb
        cases b with
        | true =>
          have HR : Aside0 (res = false) := ⟨HBAD.out HEO.out⟩
          go_wp2_with (go_at_call 25; refine (contains_zero s true HC.out _).mono ?_; rintro e w5 ⟨rfl, rfl⟩)
          exact HD.out _ _ (by rw [HR.out]; rfl) (below_alloc HB3.out _)
        | false =>
          go_wp2_with (go_at_call 25; refine (contains_zero s false HC.out _).mono ?_; rintro e w5 ⟨rfl, rfl⟩)
          go_roundw
          case rel =>
            refine ⟨w3, seen.push e.born, HAL4.out, HT3, rfl, ⟨fun x hx hc t' ht' k1 k2 => ?_⟩⟩
            rw [contains_push] at hc
            rcases Bool.or_eq_true _ _ ▸ hc with h1 | h1
            · exact HNO.out x hx h1 t' ht' k1 k2
            · have hx' : x = e := born_inj HST.out.2.1 hx (mem_left HE.out).1 (beq_iff_eq.1 h1)
              subst hx'
              rw [HK.out] at k1
              rw [HV.out] at k2
              have e1 : s = t'.1 := mkS_inj.1 (Value.string.inj k1)
              have e2 : mx = t'.2 := (Value.int.inj k2).2
              have e3 : t' = (s, mx) := Prod.ext e1.symm e2.symm
              rw [e3, HEO.out]
              rfl
          case measure =>
            rw [← HSZ2.out, World.iterSeen_alloc, HSZ2.out, ← HSZ.out, World.iterSeen_alloc]
            exact left_shrinks es seen e HE.out
theorem may_any (h : Hd) (w : World) (hG : Good w) (hf : Fits h) : Calls Tryz.prog 9 #[.agg (hdCells h)] w fun e w' => e = .returned (.bool (mayH h)) ∧ Below w.heap.size w w' := may_done h w hf
end Go.Proofs.YtpmiddhdgidimaaGreatDoor
