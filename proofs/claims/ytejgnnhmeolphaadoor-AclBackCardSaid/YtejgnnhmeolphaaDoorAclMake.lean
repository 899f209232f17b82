/- The statements' own helper Make: a list by numbers. -/
import Derived.Test.YtejgnnhmeolphaaDoorAclAdd
set_option linter.unusedVariables false
set_option linter.unusedSimpArgs false
namespace Go.Proofs.YtejgnnhmeolphaaDoor
open Go.RowKit Go.Proofs.YtejgnnhmeolphaaDoorW.PrintWords Go.Proofs.YtejgnnhmeolphaaDoor.PAclR

def makeStep (ns : List Int) (s : List Ace × List Ace) (j : Nat) : List Ace × List Ace :=
  if ns.getD (2 * j) 0 % 2 = 0 then (addL s.1 ⟨2, ns.getD (2 * j) 0 / 2, ns.getD (2 * j + 1) 0 % 8⟩, s.2) else (s.1, addL s.2 ⟨4, ns.getD (2 * j) 0 / 2, ns.getD (2 * j + 1) 0 % 8⟩)
def makeUG (ns : List Int) : Nat → List Ace × List Ace
  | 0 => ([], [])
  | j + 1 => makeStep ns (makeUG ns j) j
def rounds (n : Nat) : Nat := min (n / 2) 6
def makeOf (U G : List Ace) (x0 mode : Int) : List Ace :=
  if U.length + G.length = 0 then [⟨1, 0, mode / 64⟩] ++ U ++ [⟨3, 0, mode / 8 % 8⟩, ⟨6, 0, mode % 8⟩]
  else [⟨1, 0, mode / 64⟩] ++ U ++ [⟨3, 0, Go.bits .xor .i64 (mode / 8 % 8) (x0 % 8)⟩] ++ G ++ [⟨5, 0, mode / 8 % 8⟩, ⟨6, 0, mode % 8⟩]
/-- The list by numbers. -/
def makeL (ns : List Int) (mode : Int) : List Ace := makeOf (makeUG ns (rounds ns.length)).1 (makeUG ns (rounds ns.length)).2 (ns.getD 0 0) mode
theorem wraps_i63' (n : Int) (h₀ : 0 ≤ n) (h₁ : n < 2 ^ 63) : IntKind.i64.wrap n = n := by rw [IntKind.wrap_i64]; omega
theorem and7 (x : Int) (h0 : 0 ≤ x) (h1 : x < 1000000000) : Go.bits .and .i64 x 7 = x % 8 := bits_mask .i64 63 (by decide) wraps_i63' 3 (by decide) x h0 (by omega)
theorem rest_length (l : List Ace) (i : Int) : (restL l i).length ≤ l.length := by
  cases l with
  | nil => exact Nat.le_refl _
  | cons x r =>
    simp only [restL]
    split
    · simp
    · exact Nat.le_refl _
theorem add_length (l : List Ace) (a : Ace) : (addL l a).length ≤ l.length + 1 := by
  unfold addL
  simp only [List.length_append, List.length_take, List.length_singleton]
  have := rest_length (l.drop (aheadL l a.f1)) a.f1
  rw [List.length_drop] at this
  omega
theorem make_length (ns : List Int) : ∀ j, (makeUG ns j).1.length + (makeUG ns j).2.length ≤ j
  | 0 => by simp [makeUG]
  | j + 1 => by
    have h := make_length ns j
    have h1 := add_length (makeUG ns j).1 ⟨2, ns.getD (2 * j) 0 / 2, ns.getD (2 * j + 1) 0 % 8⟩
    have h2 := add_length (makeUG ns j).2 ⟨4, ns.getD (2 * j) 0 / 2, ns.getD (2 * j + 1) 0 % 8⟩
    simp only [makeUG, makeStep]
    split <;> simp only <;> omega

theorem ace_append {ops : Array Oper} {rest : List Oper} {o : Oper} {a : Act} {Q : Exit → Act → World → Prop} (hgd : o.guard = none) (s x : Operand)
    (ho : o.op = .call { callee := .builtin .append, args := #[s, x], argTypes := #[24, 24] }) {w0 W : World} (base : Nat) (v : Value) (xs ys : List Ace) (A : Option Addr) (m c : Nat) (hs : a.eval s = v) (hx : a.eval x = .slice A m c)
    (HO : Kd.R k27 27 W base (fun _ => True) v xs) (HR : Kd.C k27 W A m ys) (HB : Below base w0 W) (hbase : base ≤ W.heap.size) (hl : xs.length + m ≤ 100000)
    (h : ∀ v1 w1, Kd.R k27 27 w1 base (fun _ => True) v1 (xs ++ ys) → Below base w0 w1 → wpList Tryd.prog ops Q rest (a.put o.dst v1) w1) : wpList Tryd.prog ops Q (o :: rest) a W :=
  Kd.R_append_rows k27 (Rr := (k27).K W) (w0 := w0) base hgd s x 24 27 (.agg #[.int .i64 0, .int .i64 0, .int .i64 0]) 24 ho Tryd.underlying24 info27 rfl (by decide) (by omega) v xs ys A m c (fun _ => True) (fun _ => False) hs hx HO HR (fun x cs h => ace_KM h) (fun _ hk => hk.elim) (fun _ _ => trivial) HB hbase (by omega) (fun v1 w1 h1 h2 _ _ => h v1 w1 h1 h2)
theorem ace_lit1 {W : World} {n base : Nat} {a0 a1 a2 : Int} (h : W.heap[n]? = some (.cells #[.int .i64 a0, .int .i64 a1, .int .i64 a2] 27 (0, 0))) (hb : base ≤ n) : Kd.R k27 27 W base (fun _ => True) (.slice (some ⟨n, 0, none⟩) 1 1) [⟨a0, a1, a2⟩] := by
  refine ⟨fun _ _ => trivial, [.int .i64 a0, .int .i64 a1, .int .i64 a2], ⟨rfl, .inr ⟨n, 1, #[.int .i64 a0, .int .i64 a1, .int .i64 a2], rfl, hb, h, Nat.le_refl _, by decide, rfl, rfl⟩⟩, ⟨rfl, fun j p hj => ?_⟩⟩
  have hj0 : j = 0 := by have := (List.getElem?_eq_some_iff.1 hj).1; simp at this; omega
  subst hj0
  obtain rfl : p = ⟨a0, a1, a2⟩ := (Option.some.inj hj).symm
  exact k27_mkM _ _ _ ⟨a0, a1, a2⟩
theorem ace_two {W : World} {n : Nat} {a0 a1 a2 b0 b1 b2 : Int} (h : W.heap[n]? = some (.cells #[.int .i64 a0, .int .i64 a1, .int .i64 a2, .int .i64 b0, .int .i64 b1, .int .i64 b2] 27 (0, 0))) : Kd.C k27 W (some ⟨n, 0, none⟩) 2 [⟨a0, a1, a2⟩, ⟨b0, b1, b2⟩] := by
  refine ⟨rfl, by decide, fun _ => ⟨_, rfl, fun j p hj => ?_⟩⟩
  have hj0 : j = 0 ∨ j = 1 := by have := (List.getElem?_eq_some_iff.1 hj).1; simp at this; omega
  rcases hj0 with rfl | rfl
  · obtain rfl : p = ⟨a0, a1, a2⟩ := (Option.some.inj hj).symm
    refine ⟨[.int .i64 a0, .int .i64 a1, .int .i64 a2], rfl, k27_mk W ⟨a0, a1, a2⟩, fun i u hu => ?_⟩
    have hi : i < 3 := (List.getElem?_eq_some_iff.1 hu).1
    have := World.news_of_block h i u (by
      have : i = 0 ∨ i = 1 ∨ i = 2 := by omega
      rcases this with rfl | rfl | rfl <;> simpa using hu)
    simpa using this
  · obtain rfl : p = ⟨b0, b1, b2⟩ := (Option.some.inj hj).symm
    refine ⟨[.int .i64 b0, .int .i64 b1, .int .i64 b2], rfl, k27_mk W ⟨b0, b1, b2⟩, fun i u hu => ?_⟩
    have hi : i < 3 := (List.getElem?_eq_some_iff.1 hu).1
    have := World.news_of_block h (3 + i) u (by
      have : i = 0 ∨ i = 1 ∨ i = 2 := by omega
      rcases this with rfl | rfl | rfl <;> simpa using hu)
    exact this
theorem lt_of_cell' {w : World} {a : Addr} {v : Value} (h : w.cell? a = some v) : a.block < w.heap.size := World.block_lt_of_cell? w a h
set_option maxHeartbeats 2000000 in
set_option maxRecDepth 100000 in
theorem make_any (A : Option Addr) (c : Nat) (ns : List Int) (mode : Int) (w : World) (hN : ReadsInt w .u8 A ns.length ns) (hb : ∀ x ∈ ns, 0 ≤ x ∧ x ≤ 255) (hc : ns.length ≤ c) (hm : 0 ≤ mode ∧ mode < 512) :
    Calls Tryd.prog 8 #[.slice A ns.length c, .int .i64 mode] w fun e w' =>
      ∃ v, e = .returned v ∧ Kd.R k27 27 w' w.heap.size (fun _ => True) v (makeL ns mode) ∧ Below w.heap.size w w' := by
  have HN := Aside0.mk hN
  have HBD := Aside0.mk hb
  have hl := hN.2.1
  clear hN hb
  have m1 : Go.bits .and .i64 (mode / 64) 7 = mode / 64 := by rw [and7 _ (by omega) (by omega)]; omega
  have m2 : Go.bits .and .i64 (mode / 8) 7 = mode / 8 % 8 := and7 _ (by omega) (by omega)
  have m3 : Go.bits .and .i64 mode 7 = mode % 8 := and7 _ (by omega) (by omega)
  go_enter Tryd.func8, Tryd.ntmps8
  go_wp2_with fail
  go_loopw [8, 9, 10] (fun vu vg v wr => ∃ (j i : Nat) (Au Ag : Option Addr) (nu ng cu cg : Nat), v = .int .i64 i ∧ vu = .slice Au nu cu ∧ vg = .slice Ag ng cg ∧ nu ≤ cu ∧ ng ≤ cg ∧ Aside0 (i = 2 * j ∧ j ≤ 6 ∧ j ≤ ns.length / 2 ∧ nu = (makeUG ns j).1.length ∧ ng = (makeUG ns j).2.length) ∧ Aside0 (Kd.C k27 wr Au nu (makeUG ns j).1) ∧ Aside0 (Kd.C k27 wr Ag ng (makeUG ns j).2) ∧ Aside0 (Below w.heap.size w wr)) (fun _ _ v _ => ns.length + 20 - (intOf v).toNat)
  case atStart => exact ⟨0, 0, none, none, 0, 0, 0, 0, rfl, rfl, rfl, Nat.le_refl _, Nat.le_refl _, ⟨rfl, by omega, by omega, rfl, rfl⟩, ⟨⟨rfl, by decide, fun h => absurd h (by omega)⟩⟩, ⟨⟨rfl, by decide, fun h => absurd h (by omega)⟩⟩, ⟨Below.refl _ _⟩⟩
  case round =>
    obtain ⟨j, i, Au, Ag, nu, ng, cu, cg, rfl, rfl, rfl, hcu, hcg, HJ, HU, HG, HB⟩ := hrel
    have hi24 : i ≤ 12 := by have := HJ.out; omega
    by_cases h1 : i + 1 < ns.length
    · by_cases h2 : i < 12
      · obtain ⟨ad, rfl, e0⟩ := HN.out.at_ (i : Int) (by omega) (by omega)
        obtain ⟨ad', e1, f0⟩ := HN.out.at_ ((i : Int) + 1) (by omega) (by omega)
        obtain rfl := Option.some.inj e1
        have e0 := (HB.out.cell (lt_of_cell' e0)).trans e0
        have f0 := (HB.out.cell (lt_of_cell' f0)).trans f0
        simp only [rd, Int.toNat_natCast, show (((i : Nat) : Int) + 1).toNat = i + 1 from by omega] at e0 f0
        obtain ⟨x, hx⟩ : ∃ x, ns.getD i 0 = x := ⟨_, rfl⟩
        obtain ⟨y, hy⟩ : ∃ y, ns.getD (i + 1) 0 = y := ⟨_, rfl⟩
        rw [hx] at e0
        rw [hy] at f0
        have hxb : 0 ≤ x ∧ x ≤ 255 := HBD.out x (by rw [← hx, List.getD_eq_getElem?_getD, List.getElem?_eq_getElem (by omega)]; exact List.getElem_mem _)
        have hyb : 0 ≤ y ∧ y ≤ 255 := HBD.out y (by rw [← hy, List.getD_eq_getElem?_getD, List.getElem?_eq_getElem (by omega)]; exact List.getElem_mem _)
        have HX := Aside0.mk hx
        have HY := Aside0.mk hy
        clear hx hy e1
        have h1' : ((i : Nat) : Int) + 1 < ((ns.length : Nat) : Int) := by omega
        have h1'' : ((i : Nat) : Int) < ((ns.length : Nat) : Int) := by omega
        go_wp2_with fail
        have hw1 : IntKind.i64.wrap (((i : Nat) : Int) + 1) = ((i : Nat) : Int) + 1 := by rw [IntKind.wrap_i64]; omega
        have hwx : IntKind.i64.wrap x = x := by rw [IntKind.wrap_i64]; omega
        have hwy : IntKind.i64.wrap y = y := by rw [IntKind.wrap_i64]; omega
        have hwd : IntKind.i64.wrap (x.tdiv 2) = x / 2 := by rw [Int.tdiv_eq_ediv_of_nonneg hxb.1, IntKind.wrap_i64]; omega
        have hwm : IntKind.i64.wrap (y.tmod 8) = y % 8 := by rw [Int.tmod_eq_emod_of_nonneg hyb.1, IntKind.wrap_i64]; omega
        have h1z : (0 : Int) ≤ ((i : Nat) : Int) + 1 := by omega
        have h1y : (0 : Int) ≤ ((i : Nat) : Int) := by omega
        have h1x : (((i : Nat) : Int) + 1).toNat = i + 1 := by omega
        have f1 : wr.cell? ⟨ad.block, ad.off + (i + 1), none⟩ = some (.int .u8 y) := by simpa [Addr.add] using f0
        go_region_held3 (fun w' => w'.cell? (ad.add i) = some (.int .u8 x) ∧ w'.cell? ⟨ad.block, ad.off + (i + 1), none⟩ = some (.int .u8 y)) (first | (go_keep; done) | exact ⟨e0, f1⟩) (fail)
        have hnu := HJ.out.2.2.2.1
        have hng := HJ.out.2.2.2.2
        have hlen := make_length ns j
        have hj6 := HJ.out.2.1
        by_cases h3 : x % 2 = 0
        · have hst : makeUG ns (j + 1) = (addL (makeUG ns j).1 ⟨2, x / 2, y % 8⟩, (makeUG ns j).2) := by
            simp only [makeUG, makeStep, ← HJ.out.1, HX.out, HY.out]
            rw [if_pos h3]
          have hla := add_length (makeUG ns j).1 ⟨2, x / 2, y % 8⟩
          have ha := add_any Au cu (makeUG ns j).1 2 (x / 2) (y % 8) wr.drew (by rw [← hnu]; exact Kd.C_below HU.out (below_drew (Below.refl _ _))) (by omega) (by omega)
          rw [← hnu] at ha
          have HST := Aside0.mk hst
          clear hst hnu hng
          go_wp2_with fail
          refine ha.mono ?_
          rintro e w1 ⟨v, rfl, hR, hb1⟩
          obtain ⟨A1, c1, rfl, hc1, hC1⟩ := Kd.R_reads hR
          have hb2 := below_next (below_drew HB.out) hb1
          have hb3 : Below wr.heap.size wr w1 := below_next (below_drew (Below.refl _ _)) hb1
          clear ha hR hb1
          go_wp2_with fail
          go_roundw
          case measure => simp [intOf]; omega
          case rel => exact ⟨j + 1, i + 2, A1, Ag, _, ng, c1, cg, by go_num, rfl, rfl, hc1, hcg, ⟨by have := HJ.out; omega, by have := HJ.out; omega, by have := HJ.out; omega, by rw [HST.out], by rw [HST.out]; exact HJ.out.2.2.2.2⟩, ⟨by rw [HST.out]; exact hC1⟩, ⟨by rw [HST.out]; exact Kd.C_below HG.out hb3⟩, ⟨hb2⟩⟩
        · have hst : makeUG ns (j + 1) = ((makeUG ns j).1, addL (makeUG ns j).2 ⟨4, x / 2, y % 8⟩) := by
            simp only [makeUG, makeStep, ← HJ.out.1, HX.out, HY.out]
            rw [if_neg h3]
          have hla := add_length (makeUG ns j).2 ⟨4, x / 2, y % 8⟩
          have ha := add_any Ag cg (makeUG ns j).2 4 (x / 2) (y % 8) wr.drew (by rw [← hng]; exact Kd.C_below HG.out (below_drew (Below.refl _ _))) (by omega) (by omega)
          rw [← hng] at ha
          have HST := Aside0.mk hst
          clear hst hnu hng
          go_wp2_with fail
          refine ha.mono ?_
          rintro e w1 ⟨v, rfl, hR, hb1⟩
          obtain ⟨A1, c1, rfl, hc1, hC1⟩ := Kd.R_reads hR
          have hb2 := below_next (below_drew HB.out) hb1
          have hb3 : Below wr.heap.size wr w1 := below_next (below_drew (Below.refl _ _)) hb1
          clear ha hR hb1
          go_wp2_with fail
          go_roundw
          case measure => simp [intOf]; omega
          case rel => exact ⟨j + 1, i + 2, Au, A1, nu, _, cu, c1, by go_num, rfl, rfl, hcu, hc1, ⟨by have := HJ.out; omega, by have := HJ.out; omega, by have := HJ.out; omega, by rw [HST.out]; exact HJ.out.2.2.2.1, by rw [HST.out]⟩, ⟨by rw [HST.out]; exact Kd.C_below HU.out hb3⟩, ⟨by rw [HST.out]; exact hC1⟩, ⟨hb2⟩⟩
      · have hj : j = rounds ns.length := by have := HJ.out; unfold rounds; omega
        have HJ2 := Aside0.mk hj
        have hj6 := HJ.out.2.1
        have hnu := HJ.out.2.2.2.1
        have hng := HJ.out.2.2.2.2
        have hlen := make_length ns j
        obtain ⟨U, hU⟩ : ∃ U, U = (makeUG ns j).1 := ⟨_, rfl⟩
        obtain ⟨G, hG⟩ : ∃ G, G = (makeUG ns j).2 := ⟨_, rfl⟩
        rw [← hU] at hnu hlen HU
        rw [← hG] at hng hlen HG
        have HUG := Aside0.mk (And.intro hU hG)
        have hns : U.length + G.length = 0 ↔ nu + ng = 0 := by omega
        have HNS := Aside0.mk hns
        have hug : nu + ng ≤ 6 := by omega
        have HNU := Aside0.mk (And.intro hnu hng)
        have HLN := Aside0.mk hlen
        clear hnu hng hlen hU hG hns hj
        by_cases hz : nu + ng = 0
        · have hz1 : ((((nu : Nat) : Int) + ((ng : Nat) : Int)) == 0) = true := by simp; omega
          have hfin : ([⟨1, 0, mode / 64⟩] ++ U) ++ [⟨3, 0, mode / 8 % 8⟩, ⟨6, 0, mode % 8⟩] = makeL ns mode := by
            have h1 := HUG.out; have h2 := HNS.out.2 hz
            unfold makeL
            rw [← HJ2.out, ← h1.1, ← h1.2]
            unfold makeOf
            rw [if_pos h2]
          have HFIN := Aside0.mk hfin
          clear hfin
          go_wp2_with (first
            | ((with_reducible refine gate_dst (N := 66) rfl ?_); refine ace_append rfl (.tmp 64) (.tmp 65) rfl (w0 := wr) wr.heap.size _ [⟨1, 0, mode / 64⟩] U Au nu cu rfl rfl (ace_lit1 (heap_alloc_new _ _) (Nat.le_refl _)) (Kd.C_below HU.out (below_alloc (Below.refl _ _) _)) (below_alloc (Below.refl _ _) _) (by simp) (by simp; omega) ?_; intro v66 w66 hR66 hB66)
            | ((with_reducible refine gate_dst (N := 79) rfl ?_); refine ace_append rfl (.tmp 73) (.tmp 78) rfl (w0 := wr) wr.heap.size v66 ([⟨1, 0, mode / 64⟩] ++ U) [⟨3, 0, mode / 8 % 8⟩, ⟨6, 0, mode % 8⟩] _ _ _ rfl rfl (Kd.R_below hR66 (below_alloc (Below.refl _ _) _)) (ace_two (heap_alloc_new _ _)) (below_alloc hB66 _) (by have := hB66.size; simp; omega) (by have := HNU.out; simp; omega) ?_; intro v79 w79 hR79 hB79))
          all_goals
            go_ret
            exact ⟨v79, rfl, by rw [← HFIN.out]; exact Kd.R_lower hR79 HB.out.size, below_next HB.out hB79⟩
        · have hz1 : ((((nu : Nat) : Int) + ((ng : Nat) : Int)) == 0) = false := by simp; omega
          have hpos : 0 < ns.length := by have h1 := HLN.out; have h2 := HNU.out; have h3 := HJ.out; omega
          obtain ⟨ad, rfl, e00⟩ := HN.out.at_ (0 : Int) (by omega) (by omega)
          have e0 := (HB.out.cell (lt_of_cell' e00)).trans e00
          obtain ⟨x, hx⟩ : ∃ x, ns.getD 0 0 = x := ⟨_, rfl⟩
          have hxb : 0 ≤ x ∧ x ≤ 255 := HBD.out x (by rw [← hx, List.getD_eq_getElem?_getD, List.getElem?_eq_getElem hpos]; exact List.getElem_mem _)
          simp only [rd, Int.toNat_zero, hx] at e0
          simp [Addr.add] at e0
          have HX := Aside0.mk hx
          clear hx e00
          have hfin : ([⟨1, 0, mode / 64⟩] ++ U) ++ [⟨3, 0, Go.bits .xor .i64 (mode / 8 % 8) (x % 8)⟩] ++ G ++ [⟨5, 0, mode / 8 % 8⟩, ⟨6, 0, mode % 8⟩] = makeL ns mode := by
            have h1 := HUG.out
            unfold makeL
            rw [← HJ2.out, ← h1.1, ← h1.2, HX.out]
            unfold makeOf
            rw [if_neg (fun h => hz (HNS.out.1 h))]
          have HFIN := Aside0.mk hfin
          clear hfin
          go_wp2_with (first
            | ((with_reducible refine gate_dst (N := 66) rfl ?_); refine ace_append rfl (.tmp 64) (.tmp 65) rfl (w0 := wr) wr.heap.size _ [⟨1, 0, mode / 64⟩] U Au nu cu rfl rfl (ace_lit1 (heap_alloc_new _ _) (Nat.le_refl _)) (Kd.C_below HU.out (below_alloc (Below.refl _ _) _)) (below_alloc (Below.refl _ _) _) (by simp) (by simp; omega) ?_; intro v66 w66 hR66 hB66; have e66 := (hB66.cell (lt_of_cell' e0)).trans e0)
            | ((with_reducible refine gate_dst (N := 90) rfl ?_); refine ace_append rfl (.tmp 80) (.tmp 89) rfl (w0 := wr) wr.heap.size v66 ([⟨1, 0, mode / 64⟩] ++ U) [⟨3, 0, Go.bits .xor .i64 (mode / 8 % 8) (x % 8)⟩] _ _ _ rfl rfl (Kd.R_below hR66 (below_alloc (Below.refl _ _) _)) (ace_one (heap_alloc_new _ _)) (below_alloc hB66 _) (by have := hB66.size; simp; omega) (by have := HNU.out; simp; omega) ?_; intro v90 w90 hR90 hB90)
            | ((with_reducible refine gate_dst (N := 92) rfl ?_); refine ace_append rfl (.tmp 90) (.tmp 91) rfl (w0 := wr) wr.heap.size v90 ([⟨1, 0, mode / 64⟩] ++ U ++ [⟨3, 0, Go.bits .xor .i64 (mode / 8 % 8) (x % 8)⟩]) G Ag ng cg rfl rfl hR90 (Kd.C_below HG.out hB90) hB90 hB90.size (by have := HNU.out; simp; omega) ?_; intro v92 w92 hR92 hB92)
            | ((with_reducible refine gate_dst (N := 99) rfl ?_); refine ace_append rfl (.tmp 93) (.tmp 98) rfl (w0 := wr) wr.heap.size v92 ([⟨1, 0, mode / 64⟩] ++ U ++ [⟨3, 0, Go.bits .xor .i64 (mode / 8 % 8) (x % 8)⟩] ++ G) [⟨5, 0, mode / 8 % 8⟩, ⟨6, 0, mode % 8⟩] _ _ _ rfl rfl (Kd.R_below hR92 (below_alloc (Below.refl _ _) _)) (ace_two (heap_alloc_new _ _)) (below_alloc hB92 _) (by have := hB92.size; simp; omega) (by have := HNU.out; simp; omega) ?_; intro v99 w99 hR99 hB99))
          all_goals
            go_ret
            exact ⟨v99, rfl, by rw [← HFIN.out]; exact Kd.R_lower hR99 HB.out.size, below_next HB.out hB99⟩
    · have hj : j = rounds ns.length := by have := HJ.out; unfold rounds; omega
      have HJ2 := Aside0.mk hj
      have hj6 := HJ.out.2.1
      have hnu := HJ.out.2.2.2.1
      have hng := HJ.out.2.2.2.2
      have hlen := make_length ns j
      obtain ⟨U, hU⟩ : ∃ U, U = (makeUG ns j).1 := ⟨_, rfl⟩
      obtain ⟨G, hG⟩ : ∃ G, G = (makeUG ns j).2 := ⟨_, rfl⟩
      rw [← hU] at hnu hlen HU
      rw [← hG] at hng hlen HG
      have HUG := Aside0.mk (And.intro hU hG)
      have hns : U.length + G.length = 0 ↔ nu + ng = 0 := by omega
      have HNS := Aside0.mk hns
      have hug : nu + ng ≤ 6 := by omega
      have HNU := Aside0.mk (And.intro hnu hng)
      have HLN := Aside0.mk hlen
      clear hnu hng hlen hU hG hns hj
      by_cases hz : nu + ng = 0
      · have hz1 : ((((nu : Nat) : Int) + ((ng : Nat) : Int)) == 0) = true := by simp; omega
        have hfin : ([⟨1, 0, mode / 64⟩] ++ U) ++ [⟨3, 0, mode / 8 % 8⟩, ⟨6, 0, mode % 8⟩] = makeL ns mode := by
          have h1 := HUG.out; have h2 := HNS.out.2 hz
          unfold makeL
          rw [← HJ2.out, ← h1.1, ← h1.2]
          unfold makeOf
          rw [if_pos h2]
        have HFIN := Aside0.mk hfin
        clear hfin
        go_wp2_with (first
          | ((with_reducible refine gate_dst (N := 66) rfl ?_); refine ace_append rfl (.tmp 64) (.tmp 65) rfl (w0 := wr) wr.heap.size _ [⟨1, 0, mode / 64⟩] U Au nu cu rfl rfl (ace_lit1 (heap_alloc_new _ _) (Nat.le_refl _)) (Kd.C_below HU.out (below_alloc (Below.refl _ _) _)) (below_alloc (Below.refl _ _) _) (by simp) (by simp; omega) ?_; intro v66 w66 hR66 hB66)
          | ((with_reducible refine gate_dst (N := 79) rfl ?_); refine ace_append rfl (.tmp 73) (.tmp 78) rfl (w0 := wr) wr.heap.size v66 ([⟨1, 0, mode / 64⟩] ++ U) [⟨3, 0, mode / 8 % 8⟩, ⟨6, 0, mode % 8⟩] _ _ _ rfl rfl (Kd.R_below hR66 (below_alloc (Below.refl _ _) _)) (ace_two (heap_alloc_new _ _)) (below_alloc hB66 _) (by have := hB66.size; simp; omega) (by have := HNU.out; simp; omega) ?_; intro v79 w79 hR79 hB79))
        all_goals
          go_ret
          exact ⟨v79, rfl, by rw [← HFIN.out]; exact Kd.R_lower hR79 HB.out.size, below_next HB.out hB79⟩
      · have hz1 : ((((nu : Nat) : Int) + ((ng : Nat) : Int)) == 0) = false := by simp; omega
        have hpos : 0 < ns.length := by have h1 := HLN.out; have h2 := HNU.out; have h3 := HJ.out; omega
        obtain ⟨ad, rfl, e00⟩ := HN.out.at_ (0 : Int) (by omega) (by omega)
        have e0 := (HB.out.cell (lt_of_cell' e00)).trans e00
        obtain ⟨x, hx⟩ : ∃ x, ns.getD 0 0 = x := ⟨_, rfl⟩
        have hxb : 0 ≤ x ∧ x ≤ 255 := HBD.out x (by rw [← hx, List.getD_eq_getElem?_getD, List.getElem?_eq_getElem hpos]; exact List.getElem_mem _)
        simp only [rd, Int.toNat_zero, hx] at e0
        simp [Addr.add] at e0
        have HX := Aside0.mk hx
        clear hx e00
        have hfin : ([⟨1, 0, mode / 64⟩] ++ U) ++ [⟨3, 0, Go.bits .xor .i64 (mode / 8 % 8) (x % 8)⟩] ++ G ++ [⟨5, 0, mode / 8 % 8⟩, ⟨6, 0, mode % 8⟩] = makeL ns mode := by
          have h1 := HUG.out
          unfold makeL
          rw [← HJ2.out, ← h1.1, ← h1.2, HX.out]
          unfold makeOf
          rw [if_neg (fun h => hz (HNS.out.1 h))]
        have HFIN := Aside0.mk hfin
        clear hfin
        go_wp2_with (first
          | ((with_reducible refine gate_dst (N := 66) rfl ?_); refine ace_append rfl (.tmp 64) (.tmp 65) rfl (w0 := wr) wr.heap.size _ [⟨1, 0, mode / 64⟩] U Au nu cu rfl rfl (ace_lit1 (heap_alloc_new _ _) (Nat.le_refl _)) (Kd.C_below HU.out (below_alloc (Below.refl _ _) _)) (below_alloc (Below.refl _ _) _) (by simp) (by simp; omega) ?_; intro v66 w66 hR66 hB66; have e66 := (hB66.cell (lt_of_cell' e0)).trans e0)
          | ((with_reducible refine gate_dst (N := 90) rfl ?_); refine ace_append rfl (.tmp 80) (.tmp 89) rfl (w0 := wr) wr.heap.size v66 ([⟨1, 0, mode / 64⟩] ++ U) [⟨3, 0, Go.bits .xor .i64 (mode / 8 % 8) (x % 8)⟩] _ _ _ rfl rfl (Kd.R_below hR66 (below_alloc (Below.refl _ _) _)) (ace_one (heap_alloc_new _ _)) (below_alloc hB66 _) (by have := hB66.size; simp; omega) (by have := HNU.out; simp; omega) ?_; intro v90 w90 hR90 hB90)
          | ((with_reducible refine gate_dst (N := 92) rfl ?_); refine ace_append rfl (.tmp 90) (.tmp 91) rfl (w0 := wr) wr.heap.size v90 ([⟨1, 0, mode / 64⟩] ++ U ++ [⟨3, 0, Go.bits .xor .i64 (mode / 8 % 8) (x % 8)⟩]) G Ag ng cg rfl rfl hR90 (Kd.C_below HG.out hB90) hB90 hB90.size (by have := HNU.out; simp; omega) ?_; intro v92 w92 hR92 hB92)
          | ((with_reducible refine gate_dst (N := 99) rfl ?_); refine ace_append rfl (.tmp 93) (.tmp 98) rfl (w0 := wr) wr.heap.size v92 ([⟨1, 0, mode / 64⟩] ++ U ++ [⟨3, 0, Go.bits .xor .i64 (mode / 8 % 8) (x % 8)⟩] ++ G) [⟨5, 0, mode / 8 % 8⟩, ⟨6, 0, mode % 8⟩] _ _ _ rfl rfl (Kd.R_below hR92 (below_alloc (Below.refl _ _) _)) (ace_two (heap_alloc_new _ _)) (below_alloc hB92 _) (by have := hB92.size; simp; omega) (by have := HNU.out; simp; omega) ?_; intro v99 w99 hR99 hB99))
        all_goals
          go_ret
          exact ⟨v99, rfl, by rw [← HFIN.out]; exact Kd.R_lower hR99 HB.out.size, below_next HB.out hB99⟩
end Go.Proofs.YtejgnnhmeolphaaDoor
