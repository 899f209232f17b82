/- rec.All: all records of bytes. -/
import Derived.Test.YtldimdlobgnnpaaDoorRecGet
import Derived.Test.YtldimdlobgnnpaaDoorKinds
set_option linter.unusedVariables false
set_option linter.unusedSimpArgs false
namespace Go.Proofs.YtldimdlobgnnpaaDoor
open Go.RowKit Go.Proofs.YtldimdlobgnnpaaDoorW.PrintWords

abbrev RecS := S25
def toS (x : List UInt8 × List UInt8) : RecS := ⟨mkS x.1, mkS x.2⟩
theorem rec_KM {W : World} {base : Nat} {x : RecS} {cs : List Value} (h : (k25).K W x cs) : (k25).M W base (fun _ => False) x cs := by
  rw [k25_open h]; exact k25_mkM _ _ _ x
theorem rec_append {ops : Array Oper} {rest : List Oper} {o : Oper} {a : Act} {Q : Exit → Act → World → Prop} (hgd : o.guard = none) (s x : Operand)
    (ho : o.op = .call { callee := .builtin .append, args := #[s, x], argTypes := #[39, 39] }) {w0 W : World} (base : Nat) (v : Value) (xs ys : List RecS) (A : Option Addr) (m c : Nat) (hs : a.eval s = v) (hx : a.eval x = .slice A m c)
    (HO : Kd.R k25 25 W base (fun _ => True) v xs) (HR : Kd.C k25 W A m ys) (HB : Below base w0 W) (hbase : base ≤ W.heap.size) (hl : xs.length + m ≤ 100000)
    (h : ∀ v1 w1, Kd.R k25 25 w1 base (fun _ => True) v1 (xs ++ ys) → Below base w0 w1 → wpList Tryd.prog ops Q rest (a.put o.dst v1) w1) : wpList Tryd.prog ops Q (o :: rest) a W :=
  Kd.R_append_rows k25 (Rr := (k25).K W) (w0 := w0) base hgd s x 39 25 (.agg #[(.string ⟨#[]⟩), (.string ⟨#[]⟩)]) 32 ho Tryd.underlying39 info25 rfl (by decide) (by omega) v xs ys A m c (fun _ => True) (fun _ => False) hs hx HO HR (fun x cs h => rec_KM h) (fun _ hk => hk.elim) (fun _ _ => trivial) HB hbase (by omega) (fun v1 w1 h1 h2 _ _ => h v1 w1 h1 h2)
theorem rec_one {W : World} {n : Nat} {a b : ByteArray} (h : W.heap[n]? = some (.cells #[.string a, .string b] 25 (0, 0))) : Kd.C k25 W (some ⟨n, 0, none⟩) 1 [⟨a, b⟩] := by
  refine ⟨rfl, by decide, fun _ => ⟨_, rfl, fun j p hj => ?_⟩⟩
  have hj0 : j = 0 := by have := (List.getElem?_eq_some_iff.1 hj).1; simp at this; omega
  subst hj0
  obtain rfl : p = ⟨a, b⟩ := (Option.some.inj hj).symm
  refine ⟨[.string a, .string b], rfl, k25_mk W ⟨a, b⟩, fun i u hu => ?_⟩
  have := World.news_of_block h i u (by simpa using hu)
  simpa using this
/-- What All answers. -/
def AllDone (s : List UInt8) (w : World) (e : Ending) (w' : World) : Prop :=
  (if 65536 < s.length then e = .returned (.tuple #[.slice none 0 0, .int .i64 6]) else match allL s with
      | none => e = .returned (.tuple #[.slice none 0 0, .int .i64 4])
      | some l => ∃ v, e = .returned (.tuple #[v, .int .i64 0]) ∧ Kd.R k25 25 w' w.heap.size (fun _ => True) v (l.map toS)) ∧ Below w.heap.size w w'
theorem all_next {s k v : List UInt8} {j n : Nat} {acc : List (List UInt8 × List UInt8)} (hr : readL (s.drop j) = some (k, v, n)) (h : allL s = (allL (s.drop j)).map (acc ++ ·)) : allL s = (allL (s.drop (j + n))).map ((acc ++ [(k, v)]) ++ ·) := by
  rw [h, all_step hr, List.drop_drop]
  cases allL (s.drop (j + n)) <;> simp
set_option maxHeartbeats 2000000 in
set_option maxRecDepth 100000 in
theorem all_any (s : List UInt8) (w : World) (hG : Good w) (hs : s.length ≤ 1000000) :
    Calls Tryd.prog 15 #[.string (mkS s)] w (AllDone s w) := by
  have HG := Aside0.mk hG
  clear hG
  by_cases hlim : 65536 < s.length
  · have hl2 : (65536 : Int) < (s.length : Int) := by omega
    go_enter Tryd.func15, Tryd.ntmps15
    go_wp2_with fail
    go_ret2
    unfold AllDone
    rw [if_pos hlim]
    exact ⟨rfl, Below.refl _ _⟩
  · have hl2 : (s.length : Int) ≤ 65536 := by omega
    go_enter Tryd.func15, Tryd.ntmps15
    go_wp2_with fail
    go_loopw [4, 5] (fun o v wr => ∃ (j : Nat) (acc : List (List UInt8 × List UInt8)), j ≤ s.length ∧ v = .int .i64 j ∧ acc.length ≤ j ∧ Aside0 (allL s = (allL (s.drop j)).map (acc ++ ·)) ∧ Aside0 (Kd.R k25 25 wr w.heap.size (fun _ => True) o (acc.map toS)) ∧ Aside0 (Below w.heap.size w wr)) (fun _ v _ => s.length - (intOf v).toNat)
    case atStart => exact ⟨0, [], Nat.zero_le _, rfl, Nat.le_refl _, ⟨by rw [List.drop_zero]; generalize allL s = q; cases q <;> simp⟩, ⟨Kd.R_nil _ _ _ _ _⟩, ⟨Below.refl _ _⟩⟩
    case round =>
      obtain ⟨j, acc, hj, rfl, hal, HM, HR, HB⟩ := hrel
      have HG1 := Aside0.mk (HG.out.below HB.out)
      by_cases hlt : j < s.length
      · cases hr : readL (s.drop j) with
        | none =>
          have HN := Aside0.mk (show allL s = none by
            rw [HM.out, all_none (by intro e; have := congrArg List.length e; simp at this; omega) hr]; rfl)
          have H := Aside0.mk hr
          clear hr
          go_wp2_with (go_at_call 10; refine (get_bad s j _ HG1.out hlt hs H.out).mono ?_; rintro e w5 ⟨rfl, hb5⟩; simp only [gotV])
          go_ret2
          unfold AllDone
          rw [if_neg hlim, HN.out]
          exact ⟨rfl, below_next HB.out (below_alloc hb5 _)⟩
        | some x =>
          obtain ⟨k, v, n⟩ := x
          have hn := read_pos hr
          rw [List.length_drop] at hn
          have HN := Aside0.mk (all_next hr HM.out)
          have H := Aside0.mk hr
          have hal2 : acc.length ≤ 65536 := by omega
          have hjn : j + n ≤ s.length := by omega
          clear hr
          go_wp2_with (first
            | (go_at_call 10; refine (get_ok s k v j n _ HG1.out hlt hs H.out).mono ?_; rintro e w5 ⟨rfl, hb5⟩; simp only [gotV])
            | ((with_reducible refine gate_dst (N := 29) rfl ?_); refine rec_append rfl (.tmp 26) (.tmp 28) rfl (w0 := w) w.heap.size _ (acc.map toS) [⟨mkS k, mkS v⟩] _ _ _ rfl rfl (Kd.R_below HR.out (below_alloc (below_alloc hb5 _) _)) (rec_one (by simpa using heap_alloc_new (w5.alloc (.cells #[.string (mkS k), .string (mkS v)] 25)) (.cells #[.string (mkS k), .string (mkS v)] 25))) (below_alloc (below_alloc (below_next HB.out hb5) _) _) (by have := HB.out.size; have := hb5.size; simp; omega) (by simp; omega) ?_; intro v1 w6 hR6 hB6))
          go_roundw
          case measure => simp [intOf]; omega
          case rel => exact ⟨j + n, acc ++ [(k, v)], hjn, by go_num, by simp; omega, HN, ⟨by rw [List.map_append]; exact hR6⟩, ⟨hB6⟩⟩
      · obtain rfl : j = s.length := by omega
        have HE := Aside0.mk (show allL s = some acc by rw [HM.out, List.drop_length, all_nil]; simp)
        go_wp2_with fail
        go_ret2
        unfold AllDone
        rw [if_neg hlim, HE.out]
        exact ⟨⟨_, rfl, HR.out⟩, HB.out⟩
/-- What All answers, as two results. -/
def allP (s : List UInt8) : List RecS × Int := match allL s with | none => ([], 4) | some l => (l.map toS, 0)
theorem all_is (s : List UInt8) (w : World) (hG : Good w) (hs : s.length ≤ 65536) : Calls Tryd.prog 15 #[.string (mkS s)] w fun e w' =>
    ∃ Ax cx, e = .returned (.tuple #[.slice Ax (allP s).1.length cx, .int .i64 (allP s).2]) ∧ (allP s).1.length ≤ cx ∧ Kd.C k25 w' Ax (allP s).1.length (allP s).1 ∧ Below w.heap.size w w' := by
  refine (all_any s w hG (by omega)).mono fun e w' h => ?_
  unfold AllDone at h
  rw [if_neg (by omega)] at h
  unfold allP
  cases hp : allL s with
  | none =>
    rw [hp] at h
    exact ⟨none, 0, h.1, Nat.le_refl _, ⟨rfl, by decide, fun h => absurd h (by decide)⟩, h.2⟩
  | some l =>
    rw [hp] at h
    obtain ⟨⟨v, rfl, hR⟩, hb⟩ := h
    obtain ⟨A, c, rfl, hc, hC⟩ := Kd.R_reads hR
    exact ⟨A, c, rfl, hc, hC, hb⟩
end Go.Proofs.YtldimdlobgnnpaaDoor
