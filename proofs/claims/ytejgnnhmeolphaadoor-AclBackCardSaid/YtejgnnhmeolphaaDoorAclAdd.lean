/- The statements' own helper add: a part put into a list in order, each Id once. -/
import Derived.Test.YtejgnnhmeolphaaDoorAclMay
set_option linter.unusedVariables false
set_option linter.unusedSimpArgs false
namespace Go.Proofs.YtejgnnhmeolphaaDoor
open Go.RowKit Go.Proofs.YtejgnnhmeolphaaDoorW.PrintWords Go.Proofs.YtejgnnhmeolphaaDoor.PAclR

/-- How many parts stand ahead of an Id. -/
def aheadL : List Ace → Int → Nat
  | [], _ => 0
  | x :: r, i => if x.f1 < i then aheadL r i + 1 else 0
/-- What is left behind it: one of the same Id is left out. -/
def restL (l : List Ace) (i : Int) : List Ace :=
  match l with
  | [] => []
  | x :: r => if x.f1 = i then r else x :: r
def addL (l : List Ace) (a : Ace) : List Ace := l.take (aheadL l a.f1) ++ [a] ++ restL (l.drop (aheadL l a.f1)) a.f1

theorem ahead_all : ∀ (l : List Ace) (i : Int), (∀ x ∈ l, x.f1 < i) → aheadL l i = l.length
  | [], _, _ => rfl
  | x :: r, i, h => by
    simp only [aheadL, List.length_cons]
    rw [if_pos (h x (by simp)), ahead_all r i (fun y hy => h y (by simp [hy]))]
theorem ahead_at : ∀ (l : List Ace) (i : Int) (k : Nat) (a : Ace) (r : List Ace), (∀ x ∈ l.take k, x.f1 < i) → l.drop k = a :: r → ¬ a.f1 < i → aheadL l i = k
  | [], _, k, a, r, _, hd, _ => by simp at hd
  | x :: l, i, 0, a, r, _, hd, h => by
    obtain ⟨rfl, rfl⟩ := List.cons.inj hd
    simp only [aheadL]
    rw [if_neg h]
  | x :: l, i, k + 1, a, r, ht, hd, h => by
    simp only [aheadL]
    rw [if_pos (ht x (by simp)), ahead_at l i k a r (fun y hy => ht y (by simp [hy])) (by simpa using hd) h]

theorem ace_KM {w w' : World} {base : Nat} {ok : Nat → Prop} {x : Ace} {cs : List Value} (h : (k27).K w x cs) : (k27).M w' base ok x cs := by
  obtain rfl := k27_open h
  exact k27_mkM _ _ _ _
theorem ace_lit0 (W : World) (base : Nat) (hb : base ≤ W.heap.size) (n : Nat) : Kd.R k27 27 ((W.alloc (.cells #[] 27)).drewN n) base (fun _ => True) (.slice (some ⟨W.heap.size, 0, none⟩) 0 0) [] :=
  ⟨fun _ _ => trivial, [], ⟨rfl, .inr ⟨W.heap.size, 0, #[], rfl, hb, heap_alloc_new W _, Nat.le_refl _, by decide, rfl, rfl⟩⟩, ⟨rfl, fun j p h => by simp at h⟩⟩
/-- What stands from a place on. -/
theorem ace_from (A : Option Addr) (c : Nat) (l : List Ace) (k : Nat) (w : World) (hC : Kd.C k27 w A l.length l) (hc : l.length ≤ c) (hk : k ≤ l.length) :
    ∃ Ax m cx, (∀ W : World, (Instr.slice 24 (.slice A l.length c) (some (.int .i64 (k : Int))) none none).run Tryd.prog W = .ok (.slice Ax m cx) W) ∧ m ≤ cx ∧ m = l.length - k ∧ Kd.C k27 w Ax m (l.drop k) := by
  refine ⟨if c = k then A else A.map (·.add (k * 3)), l.length - k, c - k, fun W => ?_, by omega, rfl, ?_⟩
  rotate_left
  · have h := Kd.C_drop (c := c) hC hk hc
    rw [List.length_drop] at h
    exact h
  · obtain ⟨i0, hi, hz⟩ := Option.map_eq_some_iff.1 info27
    simp only [Prod.mk.injEq] at hz
    exact cut_from (P := Tryd.prog) 24 27 .i64 Tryd.underlying24 hi 3 hz.2.1 A l.length c k (by omega) (by omega) W
/-- What stands ahead of a place. -/
theorem ace_to (A : Option Addr) (c : Nat) (l : List Ace) (k : Nat) (w : World) (hC : Kd.C k27 w A l.length l) (hc : l.length ≤ c) (hk : k ≤ l.length) :
    ∃ m, (∀ W : World, (Instr.slice 24 (.slice A l.length c) none (some (.int .i64 (k : Int))) none).run Tryd.prog W = .ok (.slice A m c) W) ∧ m ≤ c ∧ m = k ∧ Kd.C k27 w A m (l.take k) := by
  refine ⟨k, fun W => ?_, by omega, rfl, ?_⟩
  · obtain ⟨i0, hi, hz⟩ := Option.map_eq_some_iff.1 info27
    exact cut_to (P := Tryd.prog) 24 27 .i64 Tryd.underlying24 hi A l.length c k (by omega) (by omega) hc W
  · have h := Kd.C_take hC hk
    rw [List.length_take, Nat.min_eq_left hk] at h
    exact h

theorem ace_lit_at {W : World} {n base : Nat} (h : W.heap[n]? = some (.cells #[] 27 (0, 0))) (hb : base ≤ n) : Kd.R k27 27 W base (fun _ => True) (.slice (some ⟨n, 0, none⟩) 0 0) [] :=
  ⟨fun _ _ => trivial, [], ⟨rfl, .inr ⟨n, 0, #[], rfl, hb, h, Nat.le_refl _, by decide, rfl, rfl⟩⟩, ⟨rfl, fun j p h => by simp at h⟩⟩
theorem ace_one {W : World} {n : Nat} {a0 a1 a2 : Int} (h : W.heap[n]? = some (.cells #[.int .i64 a0, .int .i64 a1, .int .i64 a2] 27 (0, 0))) : Kd.C k27 W (some ⟨n, 0, none⟩) 1 [⟨a0, a1, a2⟩] := by
  refine ⟨rfl, by decide, fun _ => ⟨_, rfl, fun j p hj => ?_⟩⟩
  have hj0 : j = 0 := by have := (List.getElem?_eq_some_iff.1 hj).1; simp at this; omega
  subst hj0
  obtain rfl : p = ⟨a0, a1, a2⟩ := (Option.some.inj hj).symm
  refine ⟨[.int .i64 a0, .int .i64 a1, .int .i64 a2], rfl, k27_mk W ⟨a0, a1, a2⟩, fun i u hu => ?_⟩
  have := World.news_of_block h i u (by simpa using hu)
  simpa using this
theorem ace_append_step {ops : Array Oper} {o : Oper} {a : Act} {Kc : Act → World → Prop} {Q : Exit → Act → World → Prop} {E : Prop} (hgd : o.guard = none) (s x : Operand)
    (ho : o.op = .call { callee := .builtin .append, args := #[s, x], argTypes := #[24, 24] }) {w0 W : World} (base : Nat) (v : Value) (xs ys : List Ace) (A : Option Addr) (m c : Nat) (hs : a.eval s = v) (hx : a.eval x = .slice A m c)
    (HO : Kd.R k27 27 W base (fun _ => True) v xs) (HR : Kd.C k27 W A m ys) (HB : Below base w0 W) (hbase : base ≤ W.heap.size) (hl : xs.length + m ≤ 100000)
    (h : ∀ v1 w1, Kd.R k27 27 w1 base (fun _ => True) v1 (xs ++ ys) → Below base w0 w1 → W.grownBy w1 v.ownBlock → Kc (a.put o.dst v1) w1) : if Region.wanted o (yielded ops a.tmps) = true then Oper.wp Tryd.prog o a W Kc Q else E := by
  have hw : Region.wanted o (yielded ops a.tmps) = true := by simp [Region.wanted, hgd]
  have hh := Kd.R_append_rows_step (ops := ops) (Q := Q) (Kc := Kc) k27 (Rr := (k27).K W) (w0 := w0) base hw s x 24 27 (.agg #[.int .i64 0, .int .i64 0, .int .i64 0]) 24 ho Tryd.underlying24 info27 rfl (by decide) (by omega) v xs ys A m c (fun _ => True) (fun _ => False) hs hx HO HR (fun x cs h => ace_KM h) (fun _ hk => hk.elim) (fun _ _ => trivial) HB hbase (by omega) (fun v1 w1 h1 h2 h3 _ => h v1 w1 h1 h2 h3)
  rw [if_pos hw] at hh ⊢
  exact hh

theorem heap_alloc_at {W : World} {n : Nat} {o : Obj} (h : n = W.heap.size) : (W.alloc o).heap[n]? = some o := h ▸ heap_alloc_new W o
theorem keepS {w2 W : World} {g : Nat} {x0 x1 x2 : Value} (b0 : w2.cell? ⟨g, 0, none⟩ = some x0) (b1 : w2.cell? ⟨g, 1, none⟩ = some x1) (b2 : w2.cell? ⟨g, 2, none⟩ = some x2) (hz : g < w2.heap.size) (hb : Below w2.heap.size w2 W) :
    W.cell? ⟨g, 0, none⟩ = some x0 ∧ W.cell? ⟨g, 1, none⟩ = some x1 ∧ W.cell? ⟨g, 2, none⟩ = some x2 ∧ Aside0 (Below w2.heap.size w2 W) :=
  ⟨(hb.cell (p := ⟨g, 0, none⟩) hz).trans b0, (hb.cell (p := ⟨g, 1, none⟩) hz).trans b1, (hb.cell (p := ⟨g, 2, none⟩) hz).trans b2, ⟨hb⟩⟩
/-- One part put in its place. -/
theorem add_same {l r : List Ace} {k : Nat} {i t p a0 a2 : Int} (h1 : ∀ x ∈ l.take k, x.f1 < i) (h2 : l.drop k = ⟨t, i, p⟩ :: r) : l.take k ++ [⟨a0, i, a2⟩] ++ r = addL l ⟨a0, i, a2⟩ := by
  have h := ahead_at l i k ⟨t, i, p⟩ r h1 h2 (by simp)
  unfold addL
  simp only [h, h2, restL, if_true]
theorem add_other {l r : List Ace} {k : Nat} {i t p a0 a1 a2 : Int} (h1 : ∀ x ∈ l.take k, x.f1 < a1) (h2 : l.drop k = ⟨t, i, p⟩ :: r) (h3 : ¬ i < a1) (h4 : ¬ i = a1) : l.take k ++ [⟨a0, a1, a2⟩] ++ (⟨t, i, p⟩ :: r) = addL l ⟨a0, a1, a2⟩ := by
  have h := ahead_at l a1 k ⟨t, i, p⟩ r h1 h2 h3
  unfold addL
  simp only [h, h2, restL]
  rw [if_neg h4]
theorem add_last {l : List Ace} {a0 a1 a2 : Int} (h1 : ∀ x ∈ l.take l.length, x.f1 < a1) : l.take l.length ++ [⟨a0, a1, a2⟩] ++ [] = addL l ⟨a0, a1, a2⟩ := by
  have h := ahead_all l a1 (fun x hx => h1 x (by simpa using hx))
  unfold addL
  simp only [h, List.drop_length, restL]
set_option maxHeartbeats 2000000 in
set_option maxRecDepth 100000 in
theorem add_any (A : Option Addr) (c : Nat) (l : List Ace) (a0 a1 a2 : Int) (w : World) (hC : Kd.C k27 w A l.length l) (hc : l.length ≤ c) (hl : l.length ≤ 1000) :
    Calls Tryd.prog 22 #[.slice A l.length c, .agg #[.int .i64 a0, .int .i64 a1, .int .i64 a2]] w fun e w' =>
      ∃ v, e = .returned v ∧ Kd.R k27 27 w' w.heap.size (fun _ => True) v (addL l ⟨a0, a1, a2⟩) ∧ Below w.heap.size w w' := by
  have HR := Aside0.mk hC
  clear hC
  go_enter Tryd.func22, Tryd.ntmps22
  go_wp2_with fail
  go_loopw [5] (fun v wr => ∃ k : Nat, k ≤ l.length ∧ v = .int .i64 k ∧ Aside0 (∀ x ∈ l.take k, x.f1 < a1) ∧ Aside0 (wr.heap[w.heap.size]? = some (.cells #[.int .i64 a0, .int .i64 a1, .int .i64 a2] 27 (0, 0))) ∧ Aside0 (Below w.heap.size w wr) ∧ w.heap.size < wr.heap.size) (fun v _ => l.length - (intOf v).toNat)
  case atStart =>
    exact ⟨0, Nat.zero_le _, rfl, ⟨by simp⟩, ⟨heap_alloc_new _ _⟩, ⟨by go_grown⟩, by simp⟩
  case round =>
    obtain ⟨k, hk, rfl, HK, HA, HB, hz⟩ := hrel
    have hl0 : wr.cell? ⟨w.heap.size, 0, none⟩ = some (.int .i64 a0) := (blk_cell HA.out 0).trans rfl
    have hl1 : wr.cell? ⟨w.heap.size, 1, none⟩ = some (.int .i64 a1) := (blk_cell HA.out 1).trans rfl
    have hl2 : wr.cell? ⟨w.heap.size, 2, none⟩ = some (.int .i64 a2) := (blk_cell HA.out 2).trans rfl
    obtain ⟨Ax, m, cx, hcf, hcx, hm, hX⟩ := ace_from A c l k w HR.out hc hk
    obtain ⟨m2, hct, hcx2, hm2, hX2⟩ := ace_to A c l k w HR.out hc hk
    have HX := Aside0.mk hX
    have HM := Aside0.mk hm
    have HX2 := Aside0.mk hX2
    have HM2 := Aside0.mk hm2
    clear hX hm hX2 hm2
    by_cases hlt : k < l.length
    · obtain ⟨ad, rfl, h0, h1, h2⟩ := at_T27 (Kd.C_below HR.out HB.out) (k : Int) (by omega) (by omega)
      obtain ⟨⟨t, id, pm⟩, ha⟩ : ∃ a, rd_T27 l (k : Int) = a := ⟨_, rfl⟩
      rw [ha, Int.toNat_natCast] at h0 h1 h2
      simp only at h0 h1 h2
      have hd := drop_at ⟨ha⟩ hlt
      have HD := Aside0.mk hd
      clear ha hd
      have hlt' : ((k : Nat) : Int) < ((l.length : Nat) : Int) := by omega
      by_cases hi : id < a1
      · clear hcf hct
        go_wp2_with fail
        go_quiet (fail)
        go_wp2_with fail
        go_roundw
        case measure => simp [intOf]; omega
        case rel =>
          refine ⟨k + 1, by omega, by go_num, ⟨?_⟩, ⟨HA.out⟩, ⟨below_drewN HB.out _⟩, hz⟩
          intro x hx
          have he : l[k]? = some ⟨t, id, pm⟩ := by
            have := congrArg (fun q => q[0]?) HD.out
            simpa using this
          rw [List.take_add_one, he] at hx
          rcases List.mem_append.1 hx with hx | hx
          · exact HK.out x hx
          · simp at hx
            rw [hx]; exact hi
      · have hi' : decide (id < a1) = false := decide_eq_false hi
        go_wp2_with fail
        go_quiet (fail)
        go_wp2_with ((with_reducible refine gate_dst (N := 27) rfl ?_); refine Kd.R_append_rows k27 (Rr := (k27).K ((wr.alloc (.cells #[] 27)).drewN nq)) (w0 := wr) wr.heap.size rfl (.tmp 23) (.tmp 26) 24 27 (.agg #[.int .i64 0, .int .i64 0, .int .i64 0]) 24 rfl Tryd.underlying24 info27 rfl (by decide) (by omega) _ [] (l.drop k) Ax m cx (fun _ => True) (fun _ => False) rfl rfl (ace_lit0 wr wr.heap.size (Nat.le_refl _) nq) (Kd.C_below HX.out (below_drewN (below_alloc HB.out _) nq)) (fun x cs h => ace_KM h) (fun _ hk => hk.elim) (fun _ _ => trivial) (below_drewN (below_alloc (Below.refl _ _) _) nq) (by simp <;> omega) (by have := HM.out; simp; omega) ?_; intro v1 w1 hR1 hB1 hg1 hat1)
        clear hcf hi' hlt' h0 h1 h2 hg1 hat1 hl0 hl1 hl2 hlt
        have HA1 := Aside0.mk (blk_below HA.out hB1)
        have HB1 := Aside0.mk (below_next HB.out hB1)
        have hz1 := Nat.lt_of_lt_of_le hz hB1.size
        have la1 : w1.cell? ⟨w.heap.size, 1, none⟩ = some (.int .i64 a1) := (blk_cell HA1.out 1).trans rfl
        rw [List.nil_append, HD.out] at hR1
        obtain ⟨r, hr⟩ : ∃ r, r = l.drop (k + 1) := ⟨_, rfl⟩
        rw [← hr] at hR1
        have hrl : r.length ≤ 1000 := by rw [hr, List.length_drop]; omega
        have HRR := Aside0.mk hr
        have HV := Aside0.mk (Kd.R_lower hR1 (Nat.le_of_lt hz))
        obtain ⟨g, cap, rfl, hgb, hgl, cells, hcells⟩ := Kd.R_form HV.out (by simp)
        obtain ⟨_, hcap, hC1⟩ := Kd.R_reads' HV.out
        obtain ⟨ad1, e1, p0, p1, p2⟩ := at_T27 hC1 0 (by omega) (by simp)
        obtain rfl := Option.some.inj e1
        simp [Addr.add] at p0 p1 p2
        simp only [rd_T27, Int.toNat_zero, List.getD_cons_zero] at p0 p1 p2
        have HC1 := Aside0.mk hC1
        clear hC1 hR1 hr e1 hB1 hcells p0 p2
        simp only [List.length_cons] at hcap HV HC1 ⊢
        by_cases hia : id = a1
        · subst hia
          obtain ⟨Ay, ny, cy, hcr, hny, hmy, hY⟩ := ace_from (some ⟨g, 0, none⟩) cap (⟨t, id, pm⟩ :: r) 1 w1 HC1.out hcap (by simp)
          have HY := Aside0.mk hY
          have HMY := Aside0.mk hmy
          simp only [List.length_cons, Int.natCast_one, List.drop_succ_cons, List.drop_zero] at hcr HY HMY
          clear hY hmy
          go_quiet (fail)
          have HA2 := Aside0.mk (blk_below HA1.out (below_drewN (Below.refl _ _) nq))
          have HB2 := Aside0.mk (below_drewN HB1.out nq)
          have hz2 : w.heap.size < (w1.drewN nq).heap.size := hz1
          have HX3 := Aside0.mk (Kd.C_below HX2.out HB2.out)
          have HY2 := Aside0.mk (Kd.C_below HY.out (below_drewN (Below.refl _ _) nq))
          have HADD := Aside0.mk (add_same (a0 := a0) (a2 := a2) HK.out (HRR.out ▸ HD.out))
          go_wp2_with fail
          generalize w1.drewN nq = w2 at HA2 HB2 hz2 HX3 HY2 ⊢
          have b0 : w2.cell? ⟨w.heap.size, 0, none⟩ = some (.int .i64 a0) := (blk_cell HA2.out 0).trans rfl
          have b1 : w2.cell? ⟨w.heap.size, 1, none⟩ = some (.int .i64 id) := (blk_cell HA2.out 1).trans rfl
          have b2 : w2.cell? ⟨w.heap.size, 2, none⟩ = some (.int .i64 a2) := (blk_cell HA2.out 2).trans rfl
          have HR0 := Aside0.mk (Below.refl w2.heap.size w2)
          go_region_held3 (fun w' => w'.cell? ⟨w.heap.size, 0, none⟩ = some (.int .i64 a0) ∧ w'.cell? ⟨w.heap.size, 1, none⟩ = some (.int .i64 id) ∧ w'.cell? ⟨w.heap.size, 2, none⟩ = some (.int .i64 a2) ∧ Aside0 (Below w2.heap.size w2 w'))
            (first
              | exact ⟨b0, b1, b2, ⟨below_drew HR0.out⟩⟩
              | (go_split_ands; exact keepS b0 b1 b2 hz2 (below_alloc (Aside0.out (by assumption)) _))
              | exact keepS b0 b1 b2 hz2 hbq)
            ((go_split_ands
              have hbw := Aside0.out (by assumption : Aside0 (Below w2.heap.size w2 _))
              first
              | (refine ace_append_step (o := ⟨some 46, _, _, _, _, _⟩) (by rfl) (.tmp 42) (.tmp 45) (by rfl) (w0 := w2) w2.heap.size _ [] (l.take k) _ _ _ (by rfl) (by rfl) (ace_lit_at (by first | exact heap_alloc_new _ _ | exact blk_alloc (heap_alloc_new _ _) _ | exact heap_alloc_at (by simp) | exact blk_drew (heap_alloc_at (by simp))) (by simp)) (Kd.C_below HX3.out hbw) hbw hbw.size (by have := HM2.out; simp; omega) ?_
                 intro v46 w46 hR46 hbq hg46
                 rw [List.nil_append] at hR46)
              | (refine ace_append_step (o := ⟨some 49, _, _, _, _, _⟩) (by rfl) (.tmp 46) (.tmp 48) (by rfl) (w0 := w2) w2.heap.size v46 (l.take k) [⟨a0, id, a2⟩] _ _ _ (by rfl) (by rfl) (by first | exact hR46 | exact Kd.R_below hR46 (below_alloc (Below.refl _ _) _)) (ace_one (by first | exact heap_alloc_new _ _ | (refine (hg46.block _ (by simp <;> omega) (by simp [Value.ownBlock] <;> omega)).trans ?_; first | exact heap_alloc_new _ _ | exact blk_alloc (heap_alloc_new _ _) _ | exact heap_alloc_at (by simp) | exact blk_drew (heap_alloc_at (by simp))))) hbw hbw.size (by simp; omega) ?_
                 intro v49 w49 hR49 hbq hg49)
              | (refine ace_append_step (o := ⟨some 51, _, _, _, _, _⟩) (by rfl) (.tmp 49) (.tmp 50) (by rfl) (w0 := w2) w2.heap.size v49 (l.take k ++ [⟨a0, id, a2⟩]) r _ _ _ (by rfl) (by rfl) hR49 (Kd.C_below HY2.out hbw) hbw hbw.size (by have := HMY.out; simp; omega) ?_
                 intro v51 w51 hR51 hbq hg51)
              | (trace_state; fail)))
          all_goals
            go_wp2_with fail
            go_ret
            exact ⟨v51, rfl, by rw [← HADD.out]; exact Kd.R_lower hR51 (Nat.le_of_lt hz2), below_next HB2.out hbq⟩
        · have hia' : decide (id = a1) = false := decide_eq_false hia
          have HY := HC1
          have HMY : Aside0 (r.length + 1 = r.length + 1) := ⟨rfl⟩
          go_quiet (fail)
          have HA2 := Aside0.mk (blk_below HA1.out (below_drewN (Below.refl _ _) nq))
          have HB2 := Aside0.mk (below_drewN HB1.out nq)
          have hz2 : w.heap.size < (w1.drewN nq).heap.size := hz1
          have HX3 := Aside0.mk (Kd.C_below HX2.out HB2.out)
          have HY2 := Aside0.mk (Kd.C_below HY.out (below_drewN (Below.refl _ _) nq))
          have HADD := Aside0.mk (add_other (a0 := a0) (a2 := a2) HK.out (HRR.out ▸ HD.out) (Int.not_lt.2 hi) hia)
          go_wp2_with fail
          generalize w1.drewN nq = w2 at HA2 HB2 hz2 HX3 HY2 ⊢
          have b0 : w2.cell? ⟨w.heap.size, 0, none⟩ = some (.int .i64 a0) := (blk_cell HA2.out 0).trans rfl
          have b1 : w2.cell? ⟨w.heap.size, 1, none⟩ = some (.int .i64 a1) := (blk_cell HA2.out 1).trans rfl
          have b2 : w2.cell? ⟨w.heap.size, 2, none⟩ = some (.int .i64 a2) := (blk_cell HA2.out 2).trans rfl
          have HR0 := Aside0.mk (Below.refl w2.heap.size w2)
          go_region_held3 (fun w' => w'.cell? ⟨w.heap.size, 0, none⟩ = some (.int .i64 a0) ∧ w'.cell? ⟨w.heap.size, 1, none⟩ = some (.int .i64 a1) ∧ w'.cell? ⟨w.heap.size, 2, none⟩ = some (.int .i64 a2) ∧ Aside0 (Below w2.heap.size w2 w'))
            (first
              | exact ⟨b0, b1, b2, ⟨below_drew HR0.out⟩⟩
              | (go_split_ands; exact keepS b0 b1 b2 hz2 (below_alloc (Aside0.out (by assumption)) _))
              | exact keepS b0 b1 b2 hz2 hbq)
            ((go_split_ands
              have hbw := Aside0.out (by assumption : Aside0 (Below w2.heap.size w2 _))
              first
              | (refine ace_append_step (o := ⟨some 46, _, _, _, _, _⟩) (by rfl) (.tmp 42) (.tmp 45) (by rfl) (w0 := w2) w2.heap.size _ [] (l.take k) _ _ _ (by rfl) (by rfl) (ace_lit_at (by first | exact heap_alloc_new _ _ | exact blk_alloc (heap_alloc_new _ _) _ | exact heap_alloc_at (by simp) | exact blk_drew (heap_alloc_at (by simp))) (by simp)) (Kd.C_below HX3.out hbw) hbw hbw.size (by have := HM2.out; simp; omega) ?_
                 intro v46 w46 hR46 hbq hg46
                 rw [List.nil_append] at hR46)
              | (refine ace_append_step (o := ⟨some 49, _, _, _, _, _⟩) (by rfl) (.tmp 46) (.tmp 48) (by rfl) (w0 := w2) w2.heap.size v46 (l.take k) [⟨a0, a1, a2⟩] _ _ _ (by rfl) (by rfl) (by first | exact hR46 | exact Kd.R_below hR46 (below_alloc (Below.refl _ _) _)) (ace_one (by first | exact heap_alloc_new _ _ | (refine (hg46.block _ (by simp <;> omega) (by simp [Value.ownBlock] <;> omega)).trans ?_; first | exact heap_alloc_new _ _ | exact blk_alloc (heap_alloc_new _ _) _ | exact heap_alloc_at (by simp) | exact blk_drew (heap_alloc_at (by simp))))) hbw hbw.size (by simp; omega) ?_
                 intro v49 w49 hR49 hbq hg49)
              | (refine ace_append_step (o := ⟨some 51, _, _, _, _, _⟩) (by rfl) (.tmp 49) (.tmp 50) (by rfl) (w0 := w2) w2.heap.size v49 (l.take k ++ [⟨a0, a1, a2⟩]) (⟨t, id, pm⟩ :: r) _ _ _ (by rfl) (by rfl) hR49 (Kd.C_below HY2.out hbw) hbw hbw.size (by have := HMY.out; simp; omega) ?_
                 intro v51 w51 hR51 hbq hg51)
              | (trace_state; fail)))
          all_goals
            go_wp2_with fail
            go_ret
            exact ⟨v51, rfl, by rw [← HADD.out]; exact Kd.R_lower hR51 (Nat.le_of_lt hz2), below_next HB2.out hbq⟩
    · obtain rfl : k = l.length := by omega
      have hf : decide (((l.length : Nat) : Int) < ((l.length : Nat) : Int)) = false := decide_eq_false (by omega)
      go_wp2_with fail
      go_quiet (fail)
      go_wp2_with ((with_reducible refine gate_dst (N := 27) rfl ?_); refine Kd.R_append_rows k27 (Rr := (k27).K ((wr.alloc (.cells #[] 27)).drewN nq)) (w0 := wr) wr.heap.size rfl (.tmp 23) (.tmp 26) 24 27 (.agg #[.int .i64 0, .int .i64 0, .int .i64 0]) 24 rfl Tryd.underlying24 info27 rfl (by decide) (by omega) _ [] (l.drop l.length) Ax m cx (fun _ => True) (fun _ => False) rfl rfl (ace_lit0 wr wr.heap.size (Nat.le_refl _) nq) (Kd.C_below HX.out (below_drewN (below_alloc HB.out _) nq)) (fun x cs h => ace_KM h) (fun _ hk => hk.elim) (fun _ _ => trivial) (below_drewN (below_alloc (Below.refl _ _) _) nq) (by simp <;> omega) (by have := HM.out; simp; omega) ?_; intro v1 w1 hR1 hB1 hg1 hat1)
      clear hcf hf hl0 hl1 hl2 hlt hg1 hat1
      have HA1 := Aside0.mk (blk_below HA.out hB1)
      have HB1 := Aside0.mk (below_next HB.out hB1)
      have hz1 := Nat.lt_of_lt_of_le hz hB1.size
      rw [List.nil_append, List.drop_length] at hR1
      obtain ⟨Ay, cy, rfl, hcy, hY⟩ := Kd.R_reads hR1
      have HY := Aside0.mk hY
      have HMY : Aside0 ((0 : Nat) = 0) := ⟨rfl⟩
      clear hR1 hY hB1
      simp only [List.length_nil] at HY ⊢
      go_quiet (fail)
      have HA2 := Aside0.mk (blk_below HA1.out (below_drewN (Below.refl _ _) nq))
      have HB2 := Aside0.mk (below_drewN HB1.out nq)
      have hz2 : w.heap.size < (w1.drewN nq).heap.size := hz1
      have HX3 := Aside0.mk (Kd.C_below HX2.out HB2.out)
      have HY2 := Aside0.mk (Kd.C_below HY.out (below_drewN (Below.refl _ _) nq))
      have HADD := Aside0.mk (add_last (a0 := a0) (a2 := a2) HK.out)
      go_wp2_with fail
      generalize w1.drewN nq = w2 at HA2 HB2 hz2 HX3 HY2 ⊢
      have b0 : w2.cell? ⟨w.heap.size, 0, none⟩ = some (.int .i64 a0) := (blk_cell HA2.out 0).trans rfl
      have b1 : w2.cell? ⟨w.heap.size, 1, none⟩ = some (.int .i64 a1) := (blk_cell HA2.out 1).trans rfl
      have b2 : w2.cell? ⟨w.heap.size, 2, none⟩ = some (.int .i64 a2) := (blk_cell HA2.out 2).trans rfl
      have HR0 := Aside0.mk (Below.refl w2.heap.size w2)
      go_region_held3 (fun w' => w'.cell? ⟨w.heap.size, 0, none⟩ = some (.int .i64 a0) ∧ w'.cell? ⟨w.heap.size, 1, none⟩ = some (.int .i64 a1) ∧ w'.cell? ⟨w.heap.size, 2, none⟩ = some (.int .i64 a2) ∧ Aside0 (Below w2.heap.size w2 w'))
        (first
          | exact ⟨b0, b1, b2, ⟨below_drew HR0.out⟩⟩
          | (go_split_ands; exact keepS b0 b1 b2 hz2 (below_alloc (Aside0.out (by assumption)) _))
          | exact keepS b0 b1 b2 hz2 hbq)
        ((go_split_ands
          have hbw := Aside0.out (by assumption : Aside0 (Below w2.heap.size w2 _))
          first
          | (refine ace_append_step (o := ⟨some 46, _, _, _, _, _⟩) (by rfl) (.tmp 42) (.tmp 45) (by rfl) (w0 := w2) w2.heap.size _ [] (l.take l.length) _ _ _ (by rfl) (by rfl) (ace_lit_at (by first | exact heap_alloc_new _ _ | exact blk_alloc (heap_alloc_new _ _) _ | exact heap_alloc_at (by simp) | exact blk_drew (heap_alloc_at (by simp))) (by simp)) (Kd.C_below HX3.out hbw) hbw hbw.size (by have := HM2.out; simp; omega) ?_
             intro v46 w46 hR46 hbq hg46
             rw [List.nil_append] at hR46)
          | (refine ace_append_step (o := ⟨some 49, _, _, _, _, _⟩) (by rfl) (.tmp 46) (.tmp 48) (by rfl) (w0 := w2) w2.heap.size v46 (l.take l.length) [⟨a0, a1, a2⟩] _ _ _ (by rfl) (by rfl) (by first | exact hR46 | exact Kd.R_below hR46 (below_alloc (Below.refl _ _) _)) (ace_one (by first | exact heap_alloc_new _ _ | (refine (hg46.block _ (by simp <;> omega) (by simp [Value.ownBlock] <;> omega)).trans ?_; first | exact heap_alloc_new _ _ | exact blk_alloc (heap_alloc_new _ _) _ | exact heap_alloc_at (by simp) | exact blk_drew (heap_alloc_at (by simp))))) hbw hbw.size (by simp; omega) ?_
             intro v49 w49 hR49 hbq hg49)
          | (refine ace_append_step (o := ⟨some 51, _, _, _, _, _⟩) (by rfl) (.tmp 49) (.tmp 50) (by rfl) (w0 := w2) w2.heap.size v49 (l.take l.length ++ [⟨a0, a1, a2⟩]) [] _ _ _ (by rfl) (by rfl) hR49 (Kd.C_below HY2.out hbw) hbw hbw.size (by have := HMY.out; simp; omega) ?_
             intro v51 w51 hR51 hbq hg51)
          | (trace_state; fail)))
      all_goals
        go_wp2_with fail
        go_ret
        exact ⟨v51, rfl, by rw [← HADD.out]; exact Kd.R_lower hR51 (Nat.le_of_lt hz2), below_next HB2.out hbq⟩
end Go.Proofs.YtejgnnhmeolphaaDoor
