/- acl.Parse: the list of a text. -/
import Derived.Test.YtejgnnhmeolphaaDoorAclPart
set_option linter.unusedVariables false
set_option linter.unusedSimpArgs false
namespace Go.Proofs.YtejgnnhmeolphaaDoor
open Go.RowKit Go.Proofs.YtejgnnhmeolphaaDoorW.PrintWords Go.Proofs.YtejgnnhmeolphaaDoor.PAclR

/-- The deferred closure of Parse, where the frame below panics with noPart: the results are laid. -/
theorem parse_catch (p q : Nat) (x y : Value) (s : ByteArray) (older : List PanicEntry) (w : World)
    (hp : w.cell? ⟨p, 0, none⟩ = some x) (hp' : w.frozen? ⟨p, 0, none⟩ = false) (hq : w.cell? ⟨q, 0, none⟩ = some y) (hq' : w.frozen? ⟨q, 0, none⟩ = false)
    (hpq : ¬ p = q) (hpb : p < w.heap.size) (hqb : q < w.heap.size) :
    CallsD Tryd.prog 23 #[.pointer (some ⟨p, 0, none⟩), .pointer (some ⟨q, 0, none⟩)] (.panicking ({ v := .iface 49 (.agg #[.string s]), recovered := false } :: older)) w fun e u' w' =>
      e = .returned (.tuple #[]) ∧ u' = .panicking ({ v := .iface 49 (.agg #[.string s]), recovered := true } :: older) ∧
        w' = ((w.setCell ⟨p, 0, none⟩ (.slice none 0 0)).setCell ⟨q, 0, none⟩ (.bool false)).alloc (.cells #[.string s] 49) := by
  have hta := fun (W : World) => run_typeAssert_struct (P := Tryd.prog) 49 20 (.agg #[.string s]) W Tryd.underlying49
  refine callsD_of_wpS Tryd.func23 rfl fun c₀ cs hu => ?_
  apply wpS_seq
  apply wpS_region
  simp [wpOpsS, go_sem, recoverD, hu, Tryd.ntmps23, Exit.thenS]
  refine wpS_of_wp ?_
  simp only [Array.replicate, List.replicate, List.setIfInBounds_toArray, List.set_cons_zero, List.set_cons_succ, List.append_toArray, List.cons_append, List.nil_append]
  go_wp2
  simp [bodyPostS, results, Tryd.results23]

/-- The deferred closure, where the frame below returns: nothing. -/
theorem parse_idle (a b : Value) (w : World) :
    CallsD Tryd.prog 23 #[a, b] .returning w fun e u' w' => e = .returned (.tuple #[]) ∧ u' = .returning ∧ w' = w := by
  refine callsD_of_wpS Tryd.func23 rfl fun c₀ cs hu => ?_
  apply wpS_seq
  apply wpS_region
  simp [wpOpsS, go_sem, recoverD, hu, Tryd.ntmps23, Exit.thenS]
  refine wpS_of_wp ?_
  simp only [Array.replicate, List.replicate, List.setIfInBounds_toArray, List.set_cons_zero, List.set_cons_succ, List.append_toArray, List.cons_append, List.nil_append]
  go_wp2
  cases c₀
  simp_all [bodyPostS, results, Tryd.results23]

theorem scan_good (l : List Ace) : ∀ (last : Ace) (m : List Int) (x : Ace × List Int), scan l last m = some x → ∀ a ∈ l, 1 ≤ a.f0 ∧ a.f0 ≤ 6 ∧ mayAceB a = true := by
  induction l with
  | nil => intro _ _ _ _ a ha; simp at ha
  | cons b l ih =>
    intro last m x h a ha
    simp only [scan] at h
    split at h
    · cases h
    · rename_i hb
      rcases List.mem_cons.1 ha with rfl | ha
      · have := good_of hb; exact ⟨this.1, this.2.1, this.2.2.1⟩
      · exact ih _ _ _ h a ha
/-- What a list that may be is made of. -/
theorem may_parts {l : List Ace} (h : mayL l = true) : 0 < l.length ∧ l.length ≤ 1000 ∧ ∀ a ∈ l, 1 ≤ a.f0 ∧ a.f0 ≤ 6 ∧ 0 ≤ a.f1 ∧ a.f1 ≤ 2147483647 ∧ 0 ≤ a.f2 ∧ a.f2 ≤ 7 := by
  unfold mayL at h
  split at h
  · cases h
  · rename_i x m hs
    refine ⟨?_, ?_, fun a ha => ?_⟩
    · cases l with
      | nil => simp only [scan, Option.some.injEq, Prod.mk.injEq] at hs; rw [← hs.2] at h; simp [zeros7] at h
      | cons _ _ => simp
    · simp only [Bool.and_eq_true, decide_eq_true_eq] at h; omega
    · obtain ⟨h1, h2, h3⟩ := scan_good l _ _ _ hs a ha
      simp only [mayAceB, Bool.and_eq_true, decide_eq_true_eq] at h3
      omega

/-- What a text says. -/
def parseL (s : List UInt8) : Option (List Ace) :=
  match (splitOn 44 s).mapM partL with
  | none => none
  | some l => if mayL l = true ∧ Lib.join (l.map aceText) [44] = s then some l else none

theorem mapM_next {l : List (List UInt8)} {i : Nat} {x : List UInt8} {acc : List Ace} {t : Ace} (hx : l[i]? = some x) (h : (l.take i).mapM partL = some acc) (ht : partL x = some t) : (l.take (i + 1)).mapM partL = some (acc ++ [t]) := by
  obtain ⟨hi, rfl⟩ := List.getElem?_eq_some_iff.1 hx
  rw [List.take_succ_eq_append_getElem hi, List.mapM_append, h]
  simp [ht]
theorem mapM_stop {l : List (List UInt8)} {i : Nat} {x : List UInt8} (hx : l[i]? = some x) (ht : partL x = none) : l.mapM partL = none := by
  obtain ⟨hi, rfl⟩ := List.getElem?_eq_some_iff.1 hx
  rw [← List.take_append_drop i l, List.mapM_append, List.drop_eq_getElem_cons hi]
  rw [List.mapM_cons, ht]
  cases (l.take i).mapM partL <;> rfl

/-- What Parse answers. -/
def ParseDone (s : List UInt8) (w : World) (e : Ending) (w' : World) : Prop :=
  (match parseL s with
      | none => e = .returned (.tuple #[.slice none 0 0, .bool false])
      | some l => ∃ v, e = .returned (.tuple #[v, .bool true]) ∧ Kd.R k27 27 w' w.heap.size (fun _ => True) v l) ∧ Below w.heap.size w w'
set_option maxHeartbeats 2000000 in
set_option maxRecDepth 100000 in
theorem parse_any (s : List UInt8) (w : World) (hG : Good w) (hs : s.length < 1000000) :
    Calls Tryd.prog 9 #[.string (mkS s)] w (ParseDone s w) := by
  have hmf : ∀ (fn : Fn) (first cap : Array Value) (w : World), (Instr.makeFunc fn first cap).run Tryd.prog w = .ok (.func fn first cap) w := fun _ _ _ _ => rfl
  have HG := Aside0.mk hG
  clear hG
  go_enter_defers Tryd.func9, Tryd.ntmps9
  go_wp2_with (go_at_call 24; refine (split_any s 44 _ (HG.out.below (below_alloc (below_alloc (Below.refl _ _) _) _)) (by omega)).mono ?_; rintro e w1 ⟨rfl, rfl⟩)
  have hls : (splitOn 44 s).length ≤ 1000000 := by rw [splitOn_length]; have := List.count_le_length (a := (44 : UInt8)) (l := s); omega
  have hxs := splitOn_le 44 s
  have w0 := Aside0.mk (below_alloc (below_alloc (below_alloc (Below.refl w.heap.size w) (.cells #[.slice none 0 0] 24)) (.cells #[.bool false] 4)) (.cells ((splitOn 44 s).map (Value.string ∘ mkS)).toArray 9))
  obtain ⟨h1, h2⟩ := heap_two w (.cells #[.slice none 0 0] 24) (.cells #[.bool false] 4)
  have w1 := blk_alloc h1 (.cells ((splitOn 44 s).map (Value.string ∘ mkS)).toArray 9)
  have w2 := blk_alloc h2 (.cells ((splitOn 44 s).map (Value.string ∘ mkS)).toArray 9)
  have w3 := heap_alloc_new ((w.alloc (.cells #[.slice none 0 0] 24)).alloc (.cells #[.bool false] 4)) (.cells ((splitOn 44 s).map (Value.string ∘ mkS)).toArray 9)
  have w4 : (((w.alloc (.cells #[.slice none 0 0] 24)).alloc (.cells #[.bool false] 4)).alloc (.cells ((splitOn 44 s).map (Value.string ∘ mkS)).toArray 9)).heap.size = w.heap.size + 3 := by simp
  have e4 : ((w.alloc (.cells #[.slice none 0 0] 24)).alloc (.cells #[.bool false] 4)).heap.size = w.heap.size + 1 + 1 := by simp
  rw [e4] at w3
  generalize ((w.alloc (.cells #[.slice none 0 0] 24)).alloc (.cells #[.bool false] 4)).alloc (.cells ((splitOn 44 s).map (Value.string ∘ mkS)).toArray 9) = W0 at w0 w1 w2 w3 w4 ⊢
  clear h1 h2 e4
  obtain ⟨ps, hps⟩ : ∃ ps, ps = splitOn 44 s := ⟨_, rfl⟩
  rw [← hps] at hls hxs w3 ⊢
  have HPS := Aside0.mk hps
  have HW1 := Aside0.mk w1
  have HW2 := Aside0.mk w2
  have HW3 := Aside0.mk w3
  have HXS := Aside0.mk hxs
  clear hps w1 w2 w3 hxs
  go_loopw [4, 11] (fun o v wr => ∃ (i : Nat) (acc : List Ace), i ≤ ps.length ∧ v = .int .i64 i ∧ acc.length = i ∧ Aside0 ((ps.take i).mapM partL = some acc) ∧ Aside0 (Kd.R k27 27 wr W0.heap.size (fun _ => True) o acc) ∧ Aside0 (Below W0.heap.size W0 wr)) (fun _ v _ => ps.length - (intOf v).toNat)
  case atStart => exact ⟨0, [], Nat.zero_le _, rfl, rfl, ⟨by simp⟩, ⟨Kd.R_nil _ _ _ _ _⟩, ⟨Below.refl _ _⟩⟩
  case round =>
    obtain ⟨i, acc, hi, rfl, hal, HM, HR, HB⟩ := hrel
    have HG1 := Aside0.mk ((HG.out.below w0.out).below HB.out)
    by_cases hlt : i < ps.length
    · obtain ⟨x, hx⟩ : ∃ x, ps[i]? = some x := ⟨_, List.getElem?_eq_getElem hlt⟩
      have hxl := HXS.out x (List.mem_of_getElem? hx)
      have hcell : wr.cell? ⟨w.heap.size + 1 + 1, i, none⟩ = some (.string (mkS x)) := by
        have := HB.out.block _ (blk_lt HW3.out)
        simp [World.cell?, this, HW3.out, hx]
      have HX := Aside0.mk hx
      clear hx
      cases ht : partL x with
      | some t =>
        have HT := Aside0.mk ht
        clear ht
        go_wp2_with (first
          | (go_at_call 25; refine (part_some x t _ HG1.out (by omega) HT.out).mono ?_; rintro e w5 ⟨rfl, hb5⟩)
          | ((with_reducible refine gate_dst (N := 19) rfl ?_); refine Kd.R_append k27 (w0 := W0) W0.heap.size rfl (.tmp 15) (.tmp 18) 24 27 (.agg #[.int .i64 0, .int .i64 0, .int .i64 0]) 24 rfl Tryd.underlying24 info27 rfl (by decide) (by omega) _ acc t [.int .i64 t.f0, .int .i64 t.f1, .int .i64 t.f2] (fun _ => True) (fun _ => False) rfl rfl (k27_mkM _ _ _ t) (fun _ hk => hk.elim) (fun _ _ => trivial) (Kd.R_below HR.out hb5) (below_next HB.out hb5) (Nat.le_trans HB.out.size hb5.size) (by omega) ?_; intro v1 w6 hR6 hB6 hg6 hat6))
        go_roundw
        case measure => simp [intOf]; omega
        case rel => exact ⟨i + 1, acc ++ [t], by omega, by go_num, by simp [hal], ⟨mapM_next HX.out HM.out HT.out⟩, ⟨hR6⟩, ⟨hB6⟩⟩
      | none =>
        have HT := Aside0.mk ht
        clear ht
        go_wp2_with (go_at_call 25; refine (part_none x _ HG1.out (by omega) HT.out).mono ?_; rintro e w5 ⟨rfl, hb5⟩)
        have hbw : Below W0.heap.size W0 w5 := below_next HB.out hb5
        have c1 := (hbw.block _ (blk_lt HW1.out)).trans HW1.out
        have c2 := (hbw.block _ (blk_lt HW2.out)).trans HW2.out
        have l1 := blk_lt c1
        have l2 := blk_lt c2
        have HBW := Aside0.mk (below_next w0.out hbw)
        have HN := Aside0.mk (show parseL s = none by unfold parseL; rw [← HPS.out, mapM_stop HX.out HT.out])
        refine leaves_cons (f := 23) (args := #[.pointer (some ⟨w.heap.size, 0, none⟩), .pointer (some ⟨w.heap.size + 1, 0, none⟩)]) (by simp) (by simp [go_sem]) ?_
        refine (parse_catch _ _ (.slice none 0 0) (.bool false) (mkS x) [] _ (blk_cell c1 0) (blk_frozen c1 0) (blk_cell c2 0) (blk_frozen c2 0) (by omega) l1 l2).mono ?_
        rintro e u' w'' ⟨rfl, rfl, rfl⟩
        have k1 : w5.cell? ⟨w.heap.size, 0, none⟩ = some (.slice none 0 0) := blk_cell c1 0
        have k2 : w5.cell? ⟨w.heap.size + 1, 0, none⟩ = some (.bool false) := blk_cell c2 0
        simp [Leaves, settle, results, Tryd.results9, go_sem, k1, k2, l1, l2]
        unfold ParseDone
        rw [HN.out]
        exact ⟨rfl, below_alloc (below_set (below_set HBW.out (Nat.le_refl _)) (by omega)) _⟩
    · obtain rfl : i = ps.length := by omega
      have hm := HM.out
      rw [List.take_length, HPS.out] at hm
      have HP : Aside0 (parseL s = if mayL acc = true ∧ Lib.join (acc.map aceText) [44] = s then some acc else none) := ⟨by unfold parseL; rw [hm]⟩
      obtain ⟨A, c, rfl, hc, hC⟩ := Kd.R_reads HR.out
      have HC := Aside0.mk hC
      have hal2 : acc.length ≤ 1000000 := by omega
      clear hm hC hal
      cases hmay : mayL acc with
      | false =>
        have HN : Aside0 (parseL s = none) := ⟨by rw [HP.out, if_neg (by rw [hmay]; simp)]⟩
        go_wp2_with (go_at_call 10; refine (aclMay_any A c acc _ HC.out hc hal2).mono ?_; rintro e w5 ⟨rfl, hb5⟩; rw [hmay]; have hbw : Below W0.heap.size W0 w5 := below_next HB.out hb5; have c1 := (hbw.block _ (blk_lt HW1.out)).trans HW1.out; have c2 := (hbw.block _ (blk_lt HW2.out)).trans HW2.out; have k1 : w5.cell? ⟨w.heap.size, 0, none⟩ = some (.slice none 0 0) := blk_cell c1 0; have k2 : w5.cell? ⟨w.heap.size + 1, 0, none⟩ = some (.bool false) := blk_cell c2 0; have f1 := blk_frozen c1 0; have f2 := blk_frozen c2 0; have l1 := blk_lt c1; have l2 := blk_lt c2; have HBW := Aside0.mk (below_next w0.out hbw))
        refine leaves_cons (f := 23) (args := #[.pointer (some ⟨w.heap.size, 0, none⟩), .pointer (some ⟨w.heap.size + 1, 0, none⟩)]) (by simp) (by simp [go_sem]) ?_
        refine (parse_idle _ _ _).mono ?_
        rintro e u' w'' ⟨rfl, rfl, rfl⟩
        simp [Leaves, settle, results, Tryd.results9, go_sem, k1, k2, l1, l2]
        unfold ParseDone
        rw [HN.out]
        exact ⟨rfl, below_set (below_set HBW.out (Nat.le_refl _)) (by omega)⟩
      | true =>
        have HMP := Aside0.mk (may_parts hmay)
        obtain ⟨J, hJ⟩ : ∃ J, Lib.join (acc.map aceText) [44] = J := ⟨_, rfl⟩
        have HJ := Aside0.mk hJ
        by_cases hj : J = s
        · have HN : Aside0 (parseL s = some acc) := ⟨by rw [HP.out, if_pos ⟨hmay, hJ.trans hj⟩]⟩
          clear hJ
          subst hj
          go_wp2_with (first
          | (go_at_call 10; refine (aclMay_any A c acc _ HC.out hc hal2).mono ?_; rintro e w5 ⟨rfl, hb5⟩; rw [hmay])
          | (go_at_call 13; refine (aclText_any A c acc _ (HG1.out.below hb5) (Kd.C_below HC.out hb5) hc HMP.out.2.1 HMP.out.1 HMP.out.2.2).mono ?_; rintro e w6 ⟨rfl, hb6⟩; rw [HJ.out]; have hbw : Below W0.heap.size W0 w6 := below_next (below_next HB.out hb5) hb6; have c1 := (hbw.block _ (blk_lt HW1.out)).trans HW1.out; have c2 := (hbw.block _ (blk_lt HW2.out)).trans HW2.out; have k1 : w6.cell? ⟨w.heap.size, 0, none⟩ = some (.slice none 0 0) := blk_cell c1 0; have k2 : w6.cell? ⟨w.heap.size + 1, 0, none⟩ = some (.bool false) := blk_cell c2 0; have f1 := blk_frozen c1 0; have f2 := blk_frozen c2 0; have l1 := blk_lt c1; have l2 := blk_lt c2; have HBW := Aside0.mk (below_next w0.out hbw)))
          refine leaves_cons (f := 23) (args := #[.pointer (some ⟨w.heap.size, 0, none⟩), .pointer (some ⟨w.heap.size + 1, 0, none⟩)]) (by simp) (by simp [go_sem]) ?_
          refine (parse_idle _ _ _).mono ?_
          rintro e u' w'' ⟨rfl, rfl, rfl⟩
          have R1 := Kd.R_bound (Kd.R_below (Kd.R_below HR.out hb5) hb6)
          have R2 := Kd.R_far (p := ⟨w.heap.size, 0, none⟩) R1 (fun k hk => by have := hk.2.1; simp; omega) (.slice A acc.length c)
          have R3 := Kd.R_mono (Kd.R_far (p := ⟨w.heap.size + 1, 0, none⟩) R2 (fun k hk => by have := hk.2.1; simp; omega) (.bool true)) (ok' := fun _ => True) (fun _ _ => trivial)
          have R4 := Aside0.mk (Kd.R_lower R3 (base' := w.heap.size) (by omega))
          clear R1 R2 R3
          simp [Leaves, settle, results, Tryd.results9, go_sem, k1, k2, l1, l2]
          unfold ParseDone
          rw [HN.out]
          exact ⟨⟨_, rfl, R4.out⟩, below_set (below_set HBW.out (Nat.le_refl _)) (by omega)⟩
        · have HN : Aside0 (parseL s = none) := ⟨by rw [HP.out, if_neg (by rw [hJ]; exact fun h => hj h.2)]⟩
          clear hJ
          have hj2 : (J == s) = false := by simpa using hj
          clear hj
          go_wp2_with (first
          | (go_at_call 10; refine (aclMay_any A c acc _ HC.out hc hal2).mono ?_; rintro e w5 ⟨rfl, hb5⟩; rw [hmay])
          | (go_at_call 13; refine (aclText_any A c acc _ (HG1.out.below hb5) (Kd.C_below HC.out hb5) hc HMP.out.2.1 HMP.out.1 HMP.out.2.2).mono ?_; rintro e w6 ⟨rfl, hb6⟩; rw [HJ.out]; have hbw : Below W0.heap.size W0 w6 := below_next (below_next HB.out hb5) hb6; have c1 := (hbw.block _ (blk_lt HW1.out)).trans HW1.out; have c2 := (hbw.block _ (blk_lt HW2.out)).trans HW2.out; have k1 : w6.cell? ⟨w.heap.size, 0, none⟩ = some (.slice none 0 0) := blk_cell c1 0; have k2 : w6.cell? ⟨w.heap.size + 1, 0, none⟩ = some (.bool false) := blk_cell c2 0; have f1 := blk_frozen c1 0; have f2 := blk_frozen c2 0; have l1 := blk_lt c1; have l2 := blk_lt c2; have HBW := Aside0.mk (below_next w0.out hbw)))
          refine leaves_cons (f := 23) (args := #[.pointer (some ⟨w.heap.size, 0, none⟩), .pointer (some ⟨w.heap.size + 1, 0, none⟩)]) (by simp) (by simp [go_sem]) ?_
          refine (parse_idle _ _ _).mono ?_
          rintro e u' w'' ⟨rfl, rfl, rfl⟩
          simp [Leaves, settle, results, Tryd.results9, go_sem, k1, k2, l1, l2]
          unfold ParseDone
          rw [HN.out]
          exact ⟨rfl, below_set (below_set HBW.out (Nat.le_refl _)) (by omega)⟩
end Go.Proofs.YtejgnnhmeolphaaDoor
