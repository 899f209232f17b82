/- acl.part: the part of a text. -/
import Derived.Test.YtejgnnhmeolphaaDoorAclText
import Derived.Test.YtejgnnhmeolphaaDoorStr
set_option linter.unusedVariables false
set_option linter.unusedSimpArgs false
namespace Go.Proofs.YtejgnnhmeolphaaDoor
open Go.RowKit Go.Proofs.YtejgnnhmeolphaaDoorW.PrintWords Go.Proofs.YtejgnnhmeolphaaDoor.PAclR

/-- Where a string stands first; -1: nowhere. -/
def idxS (xs : List ByteArray) (x : ByteArray) : Int := match xs.findIdx? (fun y => x.toList == y.toList) with | some i => i | none => -1
set_option maxHeartbeats 1000000 in
theorem index_any (g c : Nat) (xs : List ByteArray) (x : ByteArray) (w : World) (hc : ∀ (j : Nat) y, xs[j]? = some y → w.cell? ⟨g, j, none⟩ = some (.string y)) (hg : g < w.heap.size) (hl : xs.length ≤ 1000000) (hcap : xs.length ≤ c) :
    Calls Tryd.prog 40 #[.slice (some ⟨g, 0, none⟩) xs.length c, .string x] w fun e w' => e = .returned (.int .i64 (idxS xs x)) ∧ w = w' := by
  have HC := Aside0.mk hc
  clear hc
  go_enter Tryd.func40, Tryd.ntmps40
  go_wp2_with fail
  go_loopw [8] (fun v wr => ∃ i : Nat, i ≤ xs.length ∧ v = .int .i64 i ∧ Aside0 (∀ j < i, ∀ y, xs[j]? = some y → (x.toList == y.toList) = false) ∧ wr = w) (fun v _ => xs.length - (intOf v).toNat)
  case atStart => exact ⟨0, Nat.zero_le _, rfl, ⟨by intro j hj; omega⟩, rfl⟩
  case round =>
    obtain ⟨i, hi, rfl, HN, rfl⟩ := hrel
    by_cases hlt : i < xs.length
    · obtain ⟨y, hy⟩ : ∃ y, xs[i]? = some y := ⟨_, List.getElem?_eq_getElem hlt⟩
      have hcell := HC.out i _ hy
      have HY := Aside0.mk hy
      clear hy
      cases he : x.toList == y.toList with
      | true =>
        go_wp2_with fail
        go_ret
        refine ⟨?_, rfl⟩
        have : xs.findIdx? (fun y => x.toList == y.toList) = some i := by
          rw [List.findIdx?_eq_some_iff_getElem]
          obtain ⟨h1, h2⟩ := List.getElem?_eq_some_iff.1 HY.out
          refine ⟨hlt, by rw [h2]; exact he, fun j hj => ?_⟩
          rw [HN.out j hj _ (List.getElem?_eq_getElem (by omega))]; simp
        unfold idxS; rw [this]; rfl
      | false =>
        go_wp2_with fail
        go_roundw
        case measure => simp [intOf]; omega
        case rel =>
          refine ⟨i + 1, by omega, by go_num, ⟨fun j hj z hz => ?_⟩, trivial⟩
          by_cases hji : j = i
          · subst hji
            rw [HY.out] at hz
            obtain rfl := Option.some.inj hz
            exact he
          · exact HN.out j (by omega) z hz
    · obtain rfl : i = xs.length := by omega
      go_wp2_with fail
      go_ret
      refine ⟨?_, rfl⟩
      have : xs.findIdx? (fun y => x.toList == y.toList) = none := by
        rw [List.findIdx?_eq_none_iff]
        intro y hy
        obtain ⟨j, hj, rfl⟩ := List.mem_iff_getElem.1 hy
        rw [HN.out j hj _ (List.getElem?_eq_getElem hj)]
      unfold idxS; rw [this]; rfl

def headsL : List ByteArray := [⟨#[]⟩, ⟨#[117]⟩, ⟨#[117]⟩, ⟨#[103]⟩, ⟨#[103]⟩, ⟨#[109]⟩, ⟨#[111]⟩]
/-- The tag of a part that begins with h; below 1: there is none. -/
def headIdx (h : List UInt8) : Int := idxS headsL (mkS h)
/-- The rights that three letters say. -/
def rights1 (x : UInt8) : Int := if x = 114 then 4 else 0
def rights2 (x y : UInt8) : Int := if y = 119 then Go.bits .or .i64 (rights1 x) 2 else rights1 x
def rightsOf (x y z : UInt8) : Int := if z = 120 then Go.bits .or .i64 (rights2 x y) 1 else rights2 x y
theorem byte_eq {x : UInt8} {n : Nat} (hn : n < 256) : (x.toNat : Int) = n ↔ x = UInt8.ofNat n := by
  constructor
  · intro h
    have h2 : x.toNat = n := by omega
    rw [← h2]; simp
  · rintro rfl
    simp; omega
/-- What a part's text says. -/
def partL (s : List UInt8) : Option Ace :=
  match splitOn 58 s with
  | [a, b, c] =>
    match c with
    | [x, y, z] =>
      if headIdx a < 1 then none
      else if b = [] then some ⟨headIdx a, 0, rightsOf x y z⟩
      else match Lib.atoiAll b with
        | .ok id => some ⟨headIdx a + 1, id, rightsOf x y z⟩
        | _ => none
    | _ => none
  | _ => none

theorem part_long (s : List UInt8) (w : World) (hG : Good w) (hs : s.length < 1000000) (h : (splitOn 58 s).length ≠ 3) :
    Calls Tryd.prog 25 #[.string (mkS s)] w fun e w' => e = .panicked (Chain 49 (.agg #[.string (mkS s)])) ∧ Below w.heap.size w w' := by
  have HG := Aside0.mk hG
  clear hG
  have hle : (splitOn 58 s).length ≤ 1000000 := by rw [splitOn_length]; have := List.count_le_length (a := (58 : UInt8)) (l := s); omega
  have hne : ¬ ((splitOn 58 s).length : Int) = 3 := by omega
  go_enter Tryd.func25, Tryd.ntmps25
  go_wp2_with (go_at_call 24; refine (split_any s 58 _ (HG.out.below (below_alloc (Below.refl _ _) _)) (by omega)).mono ?_; rintro e w1 ⟨rfl, rfl⟩)
  exact ⟨rfl, rfl, by go_grown⟩

theorem splitOn_le (c : UInt8) (s : List UInt8) : ∀ x ∈ splitOn c s, x.length ≤ s.length := by
  induction s with
  | nil => intro x hx; simp [splitOn] at hx; simp [hx]
  | cons b l ih =>
    intro x hx
    unfold splitOn at hx
    split at hx
    · rcases List.mem_cons.1 hx with rfl | h
      · simp
      · have := ih x h; simp; omega
    · cases hq : splitOn c l with
      | nil => rw [hq] at hx; simp at hx; simp [hx]
      | cons y r =>
        rw [hq] at hx ih
        rcases List.mem_cons.1 hx with rfl | h
        · have := ih y (by simp); simp; omega
        · have := ih x (by simp [h]); simp; omega

/-- The split in three, at the machine. -/
theorem split3 (s a b c : List UInt8) (w : World) (hG : Good w) (hs : s.length < 1000000) (h : splitOn 58 s = [a, b, c]) :
    Calls Tryd.prog 24 #[.string (mkS s), .string ⟨#[58]⟩] w fun e w' =>
      e = .returned (.slice (some ⟨w.heap.size, 0, none⟩) 3 3) ∧ w' = w.alloc (.cells #[.string (mkS a), .string (mkS b), .string (mkS c)] 9) := by
  have := split_any s 58 w hG (by omega)
  rw [h] at this
  exact this

theorem part_c (s a b c : List UInt8) (w : World) (hG : Good w) (hs : s.length < 1000000) (h : splitOn 58 s = [a, b, c]) (hc : c.length ≠ 3) :
    Calls Tryd.prog 25 #[.string (mkS s)] w fun e w' => e = .panicked (Chain 49 (.agg #[.string (mkS s)])) ∧ Below w.heap.size w w' := by
  have HG := Aside0.mk hG
  clear hG
  have hle : c.length ≤ s.length := splitOn_le 58 s c (by rw [h]; simp)
  have hne : ¬ (c.length : Int) = 3 := by omega
  have H := Aside0.mk h
  clear h
  go_enter Tryd.func25, Tryd.ntmps25
  go_wp2_with (go_at_call 24; refine (split3 s a b c _ (HG.out.below (below_alloc (Below.refl _ _) _)) hs H.out).mono ?_; rintro e w1 ⟨rfl, rfl⟩)
  exact ⟨rfl, rfl, by go_grown⟩

theorem keepH {w : World} {g : Nat} {x : Obj} (h : w.heap[g]? = some x) (o : Obj) : (w.alloc o).heap[g]? = some x := (Below.heap_alloc w o g (heap_lt h)).trans h
theorem keepHd {w : World} {g : Nat} {x : Obj} (h : w.heap[g]? = some x) (o : Obj) : (w.alloc o).drew.heap[g]? = some x := keepH h o
theorem keepC {w : World} {a : Addr} {v : Value} (h : w.cell? a = some v) (o : Obj) : (w.alloc o).cell? a = some v := by
  have h1 := lt_of_cell h
  rw [World.cell?_of_block (Below.heap_alloc w o a.block h1)]; exact h
theorem keepCd {w : World} {a : Addr} {v : Value} (h : w.cell? a = some v) (o : Obj) : (w.alloc o).drew.cell? a = some v := keepC h o
theorem heads_agg (w : World) : Calls Tryd.prog 30 #[] w fun e w' => e = .returned (.agg #[.string ⟨#[]⟩, .string ⟨#[117]⟩, .string ⟨#[117]⟩, .string ⟨#[103]⟩, .string ⟨#[103]⟩, .string ⟨#[109]⟩, .string ⟨#[111]⟩]) ∧ Below w.heap.size w w' := heads_any w
/-- What stands behind the call of heads. -/
theorem part_cells (w w2 : World) (a b c : List UInt8) (hb2 : Below ((w.alloc (.cells #[.int .i64 0, .int .i64 0, .int .i64 0] 27)).alloc (.cells #[.string (mkS a), .string (mkS b), .string (mkS c)] 9)).heap.size ((w.alloc (.cells #[.int .i64 0, .int .i64 0, .int .i64 0] 27)).alloc (.cells #[.string (mkS a), .string (mkS b), .string (mkS c)] 9)) w2) :
    w2.heap[w.heap.size]? = some (.cells #[.int .i64 0, .int .i64 0, .int .i64 0] 27 (0, 0)) ∧ w2.heap[w.heap.size + 1]? = some (.cells #[.string (mkS a), .string (mkS b), .string (mkS c)] 9 (0, 0)) ∧ w.heap.size + 2 ≤ w2.heap.size := by
  obtain ⟨h1, h2⟩ := heap_two w (.cells #[.int .i64 0, .int .i64 0, .int .i64 0] 27) (.cells #[.string (mkS a), .string (mkS b), .string (mkS c)] 9)
  have h3 := hb2.size
  refine ⟨(hb2.block _ (by simp; omega)).trans h1, (hb2.block _ (by simp)).trans h2, by simpa using h3⟩
/-- The head's tag, at the machine: the array stands in a block. -/
theorem index_heads (g : Nat) (a : List UInt8) (w : World) (h0 : w.cell? ⟨g, 0, none⟩ = some (.string ⟨#[]⟩)) (h1 : w.cell? ⟨g, 1, none⟩ = some (.string ⟨#[117]⟩)) (h2 : w.cell? ⟨g, 2, none⟩ = some (.string ⟨#[117]⟩)) (h3 : w.cell? ⟨g, 3, none⟩ = some (.string ⟨#[103]⟩)) (h4 : w.cell? ⟨g, 4, none⟩ = some (.string ⟨#[103]⟩)) (h5 : w.cell? ⟨g, 5, none⟩ = some (.string ⟨#[109]⟩)) (h6 : w.cell? ⟨g, 6, none⟩ = some (.string ⟨#[111]⟩)) :
    Calls Tryd.prog 40 #[.slice (some ⟨g, 0, none⟩) 7 7, .string (mkS a)] w fun e w' => e = .returned (.int .i64 (headIdx a)) ∧ w = w' := by
  refine index_any g 7 headsL (mkS a) w (fun j y hy => ?_) (lt_of_cell h0) (by decide) (by decide)
  have : j = 0 ∨ j = 1 ∨ j = 2 ∨ j = 3 ∨ j = 4 ∨ j = 5 ∨ j = 6 := by
    have := (List.getElem?_eq_some_iff.1 hy).1
    simp [headsL] at this; omega
  rcases this with rfl | rfl | rfl | rfl | rfl | rfl | rfl <;> (simp [headsL] at hy; subst hy; assumption)

theorem part_h (s a b c : List UInt8) (w : World) (hG : Good w) (hs : s.length < 1000000) (h : splitOn 58 s = [a, b, c]) (hc : c.length = 3) (hh : headIdx a < 1) :
    Calls Tryd.prog 25 #[.string (mkS s)] w fun e w' => e = .panicked (Chain 49 (.agg #[.string (mkS s)])) ∧ Below w.heap.size w w' := by
  have HG := Aside0.mk hG
  clear hG
  have H := Aside0.mk h
  clear h
  go_enter Tryd.func25, Tryd.ntmps25
  go_wp2_with (first
    | (go_at_call 24; refine (split3 s a b c _ (HG.out.below (below_alloc (Below.refl _ _) _)) hs H.out).mono ?_; rintro e w1 ⟨rfl, rfl⟩)
    | (go_at_call 30; refine (heads_agg _).mono ?_; rintro e w2 ⟨rfl, hb2⟩; obtain ⟨k0, k1, k2⟩ := part_cells _ _ _ _ _ hb2))
  have n0 : (w2.alloc (.cells #[.string ⟨#[]⟩, .string ⟨#[117]⟩, .string ⟨#[117]⟩, .string ⟨#[103]⟩, .string ⟨#[103]⟩, .string ⟨#[109]⟩, .string ⟨#[111]⟩] 58)).cell? ⟨w2.heap.size, 0, none⟩ = some (.string ⟨#[]⟩) := by simp [go_sem]
  have n1 : (w2.alloc (.cells #[.string ⟨#[]⟩, .string ⟨#[117]⟩, .string ⟨#[117]⟩, .string ⟨#[103]⟩, .string ⟨#[103]⟩, .string ⟨#[109]⟩, .string ⟨#[111]⟩] 58)).cell? ⟨w2.heap.size, 1, none⟩ = some (.string ⟨#[117]⟩) := by simp [go_sem]
  have n2 : (w2.alloc (.cells #[.string ⟨#[]⟩, .string ⟨#[117]⟩, .string ⟨#[117]⟩, .string ⟨#[103]⟩, .string ⟨#[103]⟩, .string ⟨#[109]⟩, .string ⟨#[111]⟩] 58)).cell? ⟨w2.heap.size, 2, none⟩ = some (.string ⟨#[117]⟩) := by simp [go_sem]
  have n3 : (w2.alloc (.cells #[.string ⟨#[]⟩, .string ⟨#[117]⟩, .string ⟨#[117]⟩, .string ⟨#[103]⟩, .string ⟨#[103]⟩, .string ⟨#[109]⟩, .string ⟨#[111]⟩] 58)).cell? ⟨w2.heap.size, 3, none⟩ = some (.string ⟨#[103]⟩) := by simp [go_sem]
  have n4 : (w2.alloc (.cells #[.string ⟨#[]⟩, .string ⟨#[117]⟩, .string ⟨#[117]⟩, .string ⟨#[103]⟩, .string ⟨#[103]⟩, .string ⟨#[109]⟩, .string ⟨#[111]⟩] 58)).cell? ⟨w2.heap.size, 4, none⟩ = some (.string ⟨#[103]⟩) := by simp [go_sem]
  have n5 : (w2.alloc (.cells #[.string ⟨#[]⟩, .string ⟨#[117]⟩, .string ⟨#[117]⟩, .string ⟨#[103]⟩, .string ⟨#[103]⟩, .string ⟨#[109]⟩, .string ⟨#[111]⟩] 58)).cell? ⟨w2.heap.size, 5, none⟩ = some (.string ⟨#[109]⟩) := by simp [go_sem]
  have n6 : (w2.alloc (.cells #[.string ⟨#[]⟩, .string ⟨#[117]⟩, .string ⟨#[117]⟩, .string ⟨#[103]⟩, .string ⟨#[103]⟩, .string ⟨#[109]⟩, .string ⟨#[111]⟩] 58)).cell? ⟨w2.heap.size, 6, none⟩ = some (.string ⟨#[111]⟩) := by simp [go_sem]
  have m1 : (w2.alloc (.cells #[.string ⟨#[]⟩, .string ⟨#[117]⟩, .string ⟨#[117]⟩, .string ⟨#[103]⟩, .string ⟨#[103]⟩, .string ⟨#[109]⟩, .string ⟨#[111]⟩] 58)).cell? ⟨w.heap.size + 1, 0, none⟩ = some (.string (mkS a)) := keepC (by simp [World.cell?, k1]) _
  have m2 := below_next (below_alloc (below_alloc (Below.refl w.heap.size w) (.cells #[.int .i64 0, .int .i64 0, .int .i64 0] 27)) (.cells #[.string (mkS a), .string (mkS b), .string (mkS c)] 9)) hb2
  have m3 := Aside0.mk (below_alloc m2 (.cells #[.string ⟨#[]⟩, .string ⟨#[117]⟩, .string ⟨#[117]⟩, .string ⟨#[103]⟩, .string ⟨#[103]⟩, .string ⟨#[109]⟩, .string ⟨#[111]⟩] 58))
  have m4 : (w2.alloc (.cells #[.string ⟨#[]⟩, .string ⟨#[117]⟩, .string ⟨#[117]⟩, .string ⟨#[103]⟩, .string ⟨#[103]⟩, .string ⟨#[109]⟩, .string ⟨#[111]⟩] 58)).heap.size = w2.heap.size + 1 := by simp
  generalize w2.alloc (.cells #[.string ⟨#[]⟩, .string ⟨#[117]⟩, .string ⟨#[117]⟩, .string ⟨#[103]⟩, .string ⟨#[103]⟩, .string ⟨#[109]⟩, .string ⟨#[111]⟩] 58) = w4 at n0 n1 n2 n3 n4 n5 n6 m1 m3 m4 ⊢
  clear m2 k0 k1 hb2
  go_region_held3 (fun w' => w'.cell? ⟨w2.heap.size, 0, none⟩ = some (.string ⟨#[]⟩) ∧ w'.cell? ⟨w2.heap.size, 1, none⟩ = some (.string ⟨#[117]⟩) ∧ w'.cell? ⟨w2.heap.size, 2, none⟩ = some (.string ⟨#[117]⟩) ∧ w'.cell? ⟨w2.heap.size, 3, none⟩ = some (.string ⟨#[103]⟩) ∧ w'.cell? ⟨w2.heap.size, 4, none⟩ = some (.string ⟨#[103]⟩) ∧ w'.cell? ⟨w2.heap.size, 5, none⟩ = some (.string ⟨#[109]⟩) ∧ w'.cell? ⟨w2.heap.size, 6, none⟩ = some (.string ⟨#[111]⟩) ∧ w'.cell? ⟨w.heap.size + 1, 0, none⟩ = some (.string (mkS a)))
    (go_keep)
    ((go_at_call 40; go_split_ands; refine (index_heads _ a _ (by assumption) (by assumption) (by assumption) (by assumption) (by assumption) (by assumption) (by assumption)).mono ?_; rintro e w3 ⟨rfl, rfl⟩))
  all_goals
    go_wp2_with fail
    exact ⟨rfl, rfl, below_drew (below_alloc m3.out _)⟩
theorem cell_far {w : World} {p a : Addr} {u v : Value} (h : w.cell? a = some v) (hne : a.block ≠ p.block) : (w.setCell p u).drew.cell? a = some v := by
  show (w.setCell p u).cell? a = some v
  rw [World.cell?_setCell_other _ _ _ _ (fun e => hne (congrArg Addr.block e).symm)]; exact h
/-- What stands behind one letter's right. -/
theorem part_next {w wr : World} {ga gb : Nat} {t i p : Int} {x y z : UInt8} (g0 : wr.heap[ga]? = some (.cells #[.int .i64 t, .int .i64 i, .int .i64 p] 27))
    (b0 : wr.cell? ⟨gb, 0, none⟩ = some (.int .u8 x.toNat)) (b1 : wr.cell? ⟨gb, 1, none⟩ = some (.int .u8 y.toNat)) (b2 : wr.cell? ⟨gb, 2, none⟩ = some (.int .u8 z.toNat)) (HB : Aside0 (Below w.heap.size w wr)) (hg : w.heap.size ≤ ga) (hne : gb ≠ ga) (p' : Int) (gr : Nat) (hgr : gr ≠ ga) (z0 : wr.heap[gr]? = some (.cells #[.int .i64 0, .int .i64 0, .int .i64 0] 27)) :
    (wr.setCell ⟨ga, 2, none⟩ (.int .i64 p')).drew.heap[ga]? = some (.cells #[.int .i64 t, .int .i64 i, .int .i64 p'] 27) ∧ (wr.setCell ⟨ga, 2, none⟩ (.int .i64 p')).drew.cell? ⟨gb, 0, none⟩ = some (.int .u8 x.toNat) ∧
      (wr.setCell ⟨ga, 2, none⟩ (.int .i64 p')).drew.cell? ⟨gb, 1, none⟩ = some (.int .u8 y.toNat) ∧ (wr.setCell ⟨ga, 2, none⟩ (.int .i64 p')).drew.cell? ⟨gb, 2, none⟩ = some (.int .u8 z.toNat) ∧ Aside0 (Below w.heap.size w (wr.setCell ⟨ga, 2, none⟩ (.int .i64 p')).drew) ∧ (wr.setCell ⟨ga, 2, none⟩ (.int .i64 p')).drew.heap[gr]? = some (.cells #[.int .i64 0, .int .i64 0, .int .i64 0] 27) :=
  ⟨blk_drew (blk_set g0 2 _), cell_far b0 hne, cell_far b1 hne, cell_far b2 hne, ⟨below_drew (below_set HB.out hg)⟩, blk_drew (blk_far z0 hgr _)⟩

set_option maxHeartbeats 2000000 in
set_option maxRecDepth 100000 in
theorem part_e (s a : List UInt8) (x y z : UInt8) (w : World) (hG : Good w) (hs : s.length < 1000000) (h : splitOn 58 s = [a, [], [x, y, z]]) (hh : ¬ headIdx a < 1) :
    Calls Tryd.prog 25 #[.string (mkS s)] w fun e w' => e = .returned (.agg #[.int .i64 (headIdx a), .int .i64 0, .int .i64 (rightsOf x y z)]) ∧ Below w.heap.size w w' := by
  have HG := Aside0.mk hG
  clear hG
  have H := Aside0.mk h
  clear h
  go_enter Tryd.func25, Tryd.ntmps25
  go_wp2_with (first
    | (go_at_call 24; refine (split3 s a [] [x, y, z] _ (HG.out.below (below_alloc (Below.refl _ _) _)) hs H.out).mono ?_; rintro e w1 ⟨rfl, rfl⟩)
    | (go_at_call 30; refine (heads_agg _).mono ?_; rintro e w2 ⟨rfl, hb2⟩; obtain ⟨k0, k1, k2⟩ := part_cells _ _ _ _ _ hb2))
  have n0 : (w2.alloc (.cells #[.string ⟨#[]⟩, .string ⟨#[117]⟩, .string ⟨#[117]⟩, .string ⟨#[103]⟩, .string ⟨#[103]⟩, .string ⟨#[109]⟩, .string ⟨#[111]⟩] 58)).cell? ⟨w2.heap.size, 0, none⟩ = some (.string ⟨#[]⟩) := by simp [go_sem]
  have n1 : (w2.alloc (.cells #[.string ⟨#[]⟩, .string ⟨#[117]⟩, .string ⟨#[117]⟩, .string ⟨#[103]⟩, .string ⟨#[103]⟩, .string ⟨#[109]⟩, .string ⟨#[111]⟩] 58)).cell? ⟨w2.heap.size, 1, none⟩ = some (.string ⟨#[117]⟩) := by simp [go_sem]
  have n2 : (w2.alloc (.cells #[.string ⟨#[]⟩, .string ⟨#[117]⟩, .string ⟨#[117]⟩, .string ⟨#[103]⟩, .string ⟨#[103]⟩, .string ⟨#[109]⟩, .string ⟨#[111]⟩] 58)).cell? ⟨w2.heap.size, 2, none⟩ = some (.string ⟨#[117]⟩) := by simp [go_sem]
  have n3 : (w2.alloc (.cells #[.string ⟨#[]⟩, .string ⟨#[117]⟩, .string ⟨#[117]⟩, .string ⟨#[103]⟩, .string ⟨#[103]⟩, .string ⟨#[109]⟩, .string ⟨#[111]⟩] 58)).cell? ⟨w2.heap.size, 3, none⟩ = some (.string ⟨#[103]⟩) := by simp [go_sem]
  have n4 : (w2.alloc (.cells #[.string ⟨#[]⟩, .string ⟨#[117]⟩, .string ⟨#[117]⟩, .string ⟨#[103]⟩, .string ⟨#[103]⟩, .string ⟨#[109]⟩, .string ⟨#[111]⟩] 58)).cell? ⟨w2.heap.size, 4, none⟩ = some (.string ⟨#[103]⟩) := by simp [go_sem]
  have n5 : (w2.alloc (.cells #[.string ⟨#[]⟩, .string ⟨#[117]⟩, .string ⟨#[117]⟩, .string ⟨#[103]⟩, .string ⟨#[103]⟩, .string ⟨#[109]⟩, .string ⟨#[111]⟩] 58)).cell? ⟨w2.heap.size, 5, none⟩ = some (.string ⟨#[109]⟩) := by simp [go_sem]
  have n6 : (w2.alloc (.cells #[.string ⟨#[]⟩, .string ⟨#[117]⟩, .string ⟨#[117]⟩, .string ⟨#[103]⟩, .string ⟨#[103]⟩, .string ⟨#[109]⟩, .string ⟨#[111]⟩] 58)).cell? ⟨w2.heap.size, 6, none⟩ = some (.string ⟨#[111]⟩) := by simp [go_sem]
  have m1 : (w2.alloc (.cells #[.string ⟨#[]⟩, .string ⟨#[117]⟩, .string ⟨#[117]⟩, .string ⟨#[103]⟩, .string ⟨#[103]⟩, .string ⟨#[109]⟩, .string ⟨#[111]⟩] 58)).cell? ⟨w.heap.size + 1, 0, none⟩ = some (.string (mkS a)) := keepC (by simp [World.cell?, k1]) _
  have q1 : (w2.alloc (.cells #[.string ⟨#[]⟩, .string ⟨#[117]⟩, .string ⟨#[117]⟩, .string ⟨#[103]⟩, .string ⟨#[103]⟩, .string ⟨#[109]⟩, .string ⟨#[111]⟩] 58)).cell? ⟨w.heap.size + 1, 1, none⟩ = some (.string (mkS [])) := keepC (by simp [World.cell?, k1]) _
  have q2 : (w2.alloc (.cells #[.string ⟨#[]⟩, .string ⟨#[117]⟩, .string ⟨#[117]⟩, .string ⟨#[103]⟩, .string ⟨#[103]⟩, .string ⟨#[109]⟩, .string ⟨#[111]⟩] 58)).cell? ⟨w.heap.size + 1, 2, none⟩ = some (.string (mkS [x, y, z])) := keepC (by simp [World.cell?, k1]) _
  have m2 := below_next (below_alloc (below_alloc (Below.refl w.heap.size w) (.cells #[.int .i64 0, .int .i64 0, .int .i64 0] 27)) (.cells #[.string (mkS a), .string (mkS []), .string (mkS [x, y, z])] 9)) hb2
  have m5 : (w2.alloc (.cells #[.string ⟨#[]⟩, .string ⟨#[117]⟩, .string ⟨#[117]⟩, .string ⟨#[103]⟩, .string ⟨#[103]⟩, .string ⟨#[109]⟩, .string ⟨#[111]⟩] 58)).heap[w.heap.size]? = some (.cells #[.int .i64 0, .int .i64 0, .int .i64 0] 27) := blk_alloc k0 _
  have m3 := Aside0.mk (below_alloc m2 (.cells #[.string ⟨#[]⟩, .string ⟨#[117]⟩, .string ⟨#[117]⟩, .string ⟨#[103]⟩, .string ⟨#[103]⟩, .string ⟨#[109]⟩, .string ⟨#[111]⟩] 58))
  have m4 : (w2.alloc (.cells #[.string ⟨#[]⟩, .string ⟨#[117]⟩, .string ⟨#[117]⟩, .string ⟨#[103]⟩, .string ⟨#[103]⟩, .string ⟨#[109]⟩, .string ⟨#[111]⟩] 58)).heap.size = w2.heap.size + 1 := by simp
  generalize w2.alloc (.cells #[.string ⟨#[]⟩, .string ⟨#[117]⟩, .string ⟨#[117]⟩, .string ⟨#[103]⟩, .string ⟨#[103]⟩, .string ⟨#[109]⟩, .string ⟨#[111]⟩] 58) = w4 at n0 n1 n2 n3 n4 n5 n6 m1 q1 q2 m3 m4 m5 ⊢
  clear m2 k0 k1 hb2
  go_region_held3 (fun w' => w'.cell? ⟨w2.heap.size, 0, none⟩ = some (.string ⟨#[]⟩) ∧ w'.cell? ⟨w2.heap.size, 1, none⟩ = some (.string ⟨#[117]⟩) ∧ w'.cell? ⟨w2.heap.size, 2, none⟩ = some (.string ⟨#[117]⟩) ∧ w'.cell? ⟨w2.heap.size, 3, none⟩ = some (.string ⟨#[103]⟩) ∧ w'.cell? ⟨w2.heap.size, 4, none⟩ = some (.string ⟨#[103]⟩) ∧ w'.cell? ⟨w2.heap.size, 5, none⟩ = some (.string ⟨#[109]⟩) ∧ w'.cell? ⟨w2.heap.size, 6, none⟩ = some (.string ⟨#[111]⟩) ∧ w'.cell? ⟨w.heap.size + 1, 0, none⟩ = some (.string (mkS a)))
    (go_keep)
    ((go_at_call 40; go_split_ands; refine (index_heads _ a _ (by assumption) (by assumption) (by assumption) (by assumption) (by assumption) (by assumption) (by assumption)).mono ?_; rintro e w3 ⟨rfl, rfl⟩))
  all_goals
    have r1 : ((w4.alloc (.cells #[.int .i64 (headIdx a), .int .i64 0, .int .i64 0] 27)).drew).cell? ⟨w.heap.size + 1, 1, none⟩ = some (.string (mkS [])) := keepCd q1 _
    have r2 : ((w4.alloc (.cells #[.int .i64 (headIdx a), .int .i64 0, .int .i64 0] 27)).drew).cell? ⟨w.heap.size + 1, 2, none⟩ = some (.string (mkS [x, y, z])) := keepCd q2 _
    have r3 : ((w4.alloc (.cells #[.int .i64 (headIdx a), .int .i64 0, .int .i64 0] 27)).drew).heap[w2.heap.size + 1]? = some (.cells #[.int .i64 (headIdx a), .int .i64 0, .int .i64 0] 27) := by rw [← m4]; exact heap_alloc_new w4 _
    have r0 : ((w4.alloc (.cells #[.int .i64 (headIdx a), .int .i64 0, .int .i64 0] 27)).drew).heap[w.heap.size]? = some (.cells #[.int .i64 0, .int .i64 0, .int .i64 0] 27) := blk_drew (blk_alloc m5 _)
    have r4 := Aside0.mk (below_drew (below_alloc m3.out (.cells #[.int .i64 (headIdx a), .int .i64 0, .int .i64 0] 27)))
    have r5 : ((w4.alloc (.cells #[.int .i64 (headIdx a), .int .i64 0, .int .i64 0] 27)).drew).heap.size = w2.heap.size + 2 := by simp [m4]
    generalize (w4.alloc (.cells #[.int .i64 (headIdx a), .int .i64 0, .int .i64 0] 27)).drew = w5 at r0 r1 r2 r3 r4 r5 ⊢
    have p0 : w5.cell? ⟨w2.heap.size + 1, 0, none⟩ = some (.int .i64 (headIdx a)) := blk_cell r3 0
    have p1 : w5.cell? ⟨w2.heap.size + 1, 1, none⟩ = some (.int .i64 0) := blk_cell r3 1
    have p2 : w5.cell? ⟨w2.heap.size + 1, 2, none⟩ = some (.int .i64 0) := blk_cell r3 2
    obtain ⟨w6, cap6, hcv, hb6, hz6, hby⟩ := conv_world (P := Tryd.prog) w5 9 22 5 (mkS [x, y, z]) Tryd.underlying9 Tryd.underlying22 Tryd.underlying5
    have r6 := (hb6.block _ (blk_lt r3)).trans r3
    have r60 := (hb6.block _ (blk_lt r0)).trans r0
    have HB6 := Aside0.mk (below_next r4.out hb6)
    have b0 := hby.cell 0 (by simp)
    have b1 := hby.cell 1 (by simp)
    have b2 := hby.cell 2 (by simp)
    have hcv2 : (convert 9 22 (.string (mkS [x, y, z]))).run Tryd.prog w5 = .ok (.slice (some ⟨w2.heap.size + 2, 0, none⟩) 3 cap6) w6 := by rw [hcv, r5]; simp
    rw [r5] at hz6 b0 b1 b2
    clear hcv hb6 hby
    simp only [data_mkS, List.getD_cons_zero, List.getD_cons_succ] at b0 b1 b2
    obtain ⟨P1, hP1⟩ : ∃ P, P = rights1 x := ⟨_, rfl⟩
    obtain ⟨P2, hP2⟩ : ∃ P, P = rights2 x y := ⟨_, rfl⟩
    obtain ⟨P3, hP3⟩ : ∃ P, P = rightsOf x y z := ⟨_, rfl⟩
    have HP1 := Aside0.mk hP1
    have HP2 := Aside0.mk hP2
    have HP3 := Aside0.mk hP3
    clear hP1 hP2 hP3
  all_goals
    go_wp2_with fail
    go_loopw [65] (fun v wr => ∃ j : Nat, j ≤ 3 ∧ v = .int .i64 j ∧ wr.heap[w2.heap.size + 1]? = some (.cells #[.int .i64 (headIdx a), .int .i64 0, .int .i64 (if j = 0 then 0 else if j = 1 then P1 else if j = 2 then P2 else P3)] 27) ∧ wr.cell? ⟨w2.heap.size + 2, 0, none⟩ = some (.int .u8 x.toNat) ∧ wr.cell? ⟨w2.heap.size + 2, 1, none⟩ = some (.int .u8 y.toNat) ∧ wr.cell? ⟨w2.heap.size + 2, 2, none⟩ = some (.int .u8 z.toNat) ∧ Aside0 (Below w.heap.size w wr) ∧ wr.heap[w.heap.size]? = some (.cells #[.int .i64 0, .int .i64 0, .int .i64 0] 27)) (fun v _ => 3 - (intOf v).toNat)
    case atStart => exact ⟨0, by omega, rfl, r6, b0, b1, b2, HB6, r60⟩
    case round =>
      clear r6 b0 b1 b2 HB6 r60 r0 r1 r2 r3 r4 r5 p0 p1 p2 hz6 hcv2
      obtain ⟨j, hj, rfl, g0, b0, b1, b2, HB, z0⟩ := hrel
      obtain rfl | rfl | rfl | rfl : j = 0 ∨ j = 1 ∨ j = 2 ∨ j = 3 := by omega
      · have c2 : wr.cell? ⟨w2.heap.size + 1, 2, none⟩ = some (.int .i64 0) := blk_cell g0 2
        have f2 := blk_frozen g0 2
        have g2 := blk_lt g0
        go_wp2_with fail
        · have hx : (_ == _) = true := ‹((x.toNat : Int) == _) = true›
          have hx2 : x = 114 := (byte_eq (n := 114) (by decide)).1 (beq_iff_eq.1 hx)
          have HX2 := Aside0.mk hx2
          clear hx2
          go_region_law fail
          go_wp2_with fail
          obtain ⟨t0, t1, t2, t3, t4, t5⟩ := part_next g0 b0 b1 b2 HB (by omega) (by omega) (Go.bits .or .i64 0 4) w.heap.size (by omega) z0
          go_roundw
          case measure => simp [intOf]
          case rel => exact ⟨1, by omega, rfl, by rw [t0]; simp [HP1.out, rights1, HX2.out, show Go.bits .or .i64 0 4 = 4 from by decide], t1, t2, t3, t4, t5⟩
        · have hx : (_ == _) = false := ‹((x.toNat : Int) == _) = false›
          have hx2 : ¬ x = 114 := by rintro rfl; exact absurd hx (by decide)
          exact ⟨⟨1, by omega, rfl, by rw [g0]; simp [HP1.out, rights1, hx2], b0, b1, b2, HB, z0⟩, by simp [intOf]⟩
      · have c2 : wr.cell? ⟨w2.heap.size + 1, 2, none⟩ = some (.int .i64 P1) := blk_cell g0 2
        have f2 := blk_frozen g0 2
        have g2 := blk_lt g0
        go_wp2_with fail
        · have hx : (_ == _) = true := ‹((y.toNat : Int) == _) = true›
          have hx2 : y = 119 := (byte_eq (n := 119) (by decide)).1 (beq_iff_eq.1 hx)
          have HX2 := Aside0.mk hx2
          clear hx2
          go_region_law fail
          go_wp2_with fail
          obtain ⟨t0, t1, t2, t3, t4, t5⟩ := part_next g0 b0 b1 b2 HB (by omega) (by omega) (Go.bits .or .i64 P1 2) w.heap.size (by omega) z0
          go_roundw
          case measure => simp [intOf]
          case rel => exact ⟨2, by omega, rfl, by rw [t0]; simp [HP2.out, rights2, HP1.out, HX2.out], t1, t2, t3, t4, t5⟩
        · have hx : (_ == _) = false := ‹((y.toNat : Int) == _) = false›
          have hx2 : ¬ y = 119 := by rintro rfl; exact absurd hx (by decide)
          exact ⟨⟨2, by omega, rfl, by rw [g0]; simp [HP2.out, rights2, HP1.out, hx2], b0, b1, b2, HB, z0⟩, by simp [intOf]⟩
      · have c2 : wr.cell? ⟨w2.heap.size + 1, 2, none⟩ = some (.int .i64 P2) := blk_cell g0 2
        have f2 := blk_frozen g0 2
        have g2 := blk_lt g0
        go_wp2_with fail
        · have hx : (_ == _) = true := ‹((z.toNat : Int) == _) = true›
          have hx2 : z = 120 := (byte_eq (n := 120) (by decide)).1 (beq_iff_eq.1 hx)
          have HX2 := Aside0.mk hx2
          clear hx2
          go_region_law fail
          go_wp2_with fail
          obtain ⟨t0, t1, t2, t3, t4, t5⟩ := part_next g0 b0 b1 b2 HB (by omega) (by omega) (Go.bits .or .i64 P2 1) w.heap.size (by omega) z0
          go_roundw
          case measure => simp [intOf]
          case rel => exact ⟨3, by omega, rfl, by rw [t0]; simp [HP3.out, rightsOf, HP2.out, HX2.out], t1, t2, t3, t4, t5⟩
        · have hx : (_ == _) = false := ‹((z.toNat : Int) == _) = false›
          have hx2 : ¬ z = 120 := by rintro rfl; exact absurd hx (by decide)
          exact ⟨⟨3, by omega, rfl, by rw [g0]; simp [HP3.out, rightsOf, HP2.out, hx2], b0, b1, b2, HB, z0⟩, by simp [intOf]⟩
      · have c0 : wr.cell? ⟨w2.heap.size + 1, 0, none⟩ = some (.int .i64 (headIdx a)) := blk_cell g0 0
        have c1 : wr.cell? ⟨w2.heap.size + 1, 1, none⟩ = some (.int .i64 0) := blk_cell g0 1
        have c2 : wr.cell? ⟨w2.heap.size + 1, 2, none⟩ = some (.int .i64 P3) := blk_cell g0 2
        have d0 : wr.cell? ⟨w.heap.size, 0, none⟩ = some (.int .i64 0) := blk_cell z0 0
        have d1 : wr.cell? ⟨w.heap.size, 1, none⟩ = some (.int .i64 0) := blk_cell z0 1
        have d2 : wr.cell? ⟨w.heap.size, 2, none⟩ = some (.int .i64 0) := blk_cell z0 2
        have f0 := blk_frozen z0 0
        have f1 := blk_frozen z0 1
        have f2 := blk_frozen z0 2
        go_wp2_with fail
        refine bodyPost_ret (v := .agg #[.int .i64 (headIdx a), .int .i64 0, .int .i64 P3]) (by simp [results, Tryd.results25, go_sem, d0, d1, d2]) rfl ⟨by rw [HP3.out], below_set (below_set (below_set HB.out (Nat.le_refl _)) (Nat.le_refl _)) (Nat.le_refl _)⟩
theorem headIdx_le (a : List UInt8) : headIdx a ≤ 6 := by
  unfold headIdx idxS
  split
  · rename_i i h
    have := (List.findIdx?_eq_some_iff_getElem.1 h).1
    simp [headsL] at this
    omega
  · omega
set_option maxHeartbeats 2000000 in
set_option maxRecDepth 100000 in
theorem part_f (s a b : List UInt8) (x y z : UInt8) (id : Int) (w : World) (hG : Good w) (hs : s.length < 1000000) (h : splitOn 58 s = [a, b, [x, y, z]]) (hh : ¬ headIdx a < 1) (hb : b ≠ []) (hbs : b.length ≤ 1000000) (hid : Lib.atoiAll b = .ok id) :
    Calls Tryd.prog 25 #[.string (mkS s)] w fun e w' => e = .returned (.agg #[.int .i64 (headIdx a + 1), .int .i64 id, .int .i64 (rightsOf x y z)]) ∧ Below w.heap.size w w' := by
  have HG := Aside0.mk hG
  clear hG
  have H := Aside0.mk h
  clear h
  go_enter Tryd.func25, Tryd.ntmps25
  go_wp2_with (first
    | (go_at_call 24; refine (split3 s a b [x, y, z] _ (HG.out.below (below_alloc (Below.refl _ _) _)) hs H.out).mono ?_; rintro e w1 ⟨rfl, rfl⟩)
    | (go_at_call 30; refine (heads_agg _).mono ?_; rintro e w2 ⟨rfl, hb2⟩; obtain ⟨k0, k1, k2⟩ := part_cells _ _ _ _ _ hb2))
  have n0 : (w2.alloc (.cells #[.string ⟨#[]⟩, .string ⟨#[117]⟩, .string ⟨#[117]⟩, .string ⟨#[103]⟩, .string ⟨#[103]⟩, .string ⟨#[109]⟩, .string ⟨#[111]⟩] 58)).cell? ⟨w2.heap.size, 0, none⟩ = some (.string ⟨#[]⟩) := by simp [go_sem]
  have n1 : (w2.alloc (.cells #[.string ⟨#[]⟩, .string ⟨#[117]⟩, .string ⟨#[117]⟩, .string ⟨#[103]⟩, .string ⟨#[103]⟩, .string ⟨#[109]⟩, .string ⟨#[111]⟩] 58)).cell? ⟨w2.heap.size, 1, none⟩ = some (.string ⟨#[117]⟩) := by simp [go_sem]
  have n2 : (w2.alloc (.cells #[.string ⟨#[]⟩, .string ⟨#[117]⟩, .string ⟨#[117]⟩, .string ⟨#[103]⟩, .string ⟨#[103]⟩, .string ⟨#[109]⟩, .string ⟨#[111]⟩] 58)).cell? ⟨w2.heap.size, 2, none⟩ = some (.string ⟨#[117]⟩) := by simp [go_sem]
  have n3 : (w2.alloc (.cells #[.string ⟨#[]⟩, .string ⟨#[117]⟩, .string ⟨#[117]⟩, .string ⟨#[103]⟩, .string ⟨#[103]⟩, .string ⟨#[109]⟩, .string ⟨#[111]⟩] 58)).cell? ⟨w2.heap.size, 3, none⟩ = some (.string ⟨#[103]⟩) := by simp [go_sem]
  have n4 : (w2.alloc (.cells #[.string ⟨#[]⟩, .string ⟨#[117]⟩, .string ⟨#[117]⟩, .string ⟨#[103]⟩, .string ⟨#[103]⟩, .string ⟨#[109]⟩, .string ⟨#[111]⟩] 58)).cell? ⟨w2.heap.size, 4, none⟩ = some (.string ⟨#[103]⟩) := by simp [go_sem]
  have n5 : (w2.alloc (.cells #[.string ⟨#[]⟩, .string ⟨#[117]⟩, .string ⟨#[117]⟩, .string ⟨#[103]⟩, .string ⟨#[103]⟩, .string ⟨#[109]⟩, .string ⟨#[111]⟩] 58)).cell? ⟨w2.heap.size, 5, none⟩ = some (.string ⟨#[109]⟩) := by simp [go_sem]
  have n6 : (w2.alloc (.cells #[.string ⟨#[]⟩, .string ⟨#[117]⟩, .string ⟨#[117]⟩, .string ⟨#[103]⟩, .string ⟨#[103]⟩, .string ⟨#[109]⟩, .string ⟨#[111]⟩] 58)).cell? ⟨w2.heap.size, 6, none⟩ = some (.string ⟨#[111]⟩) := by simp [go_sem]
  have m1 : (w2.alloc (.cells #[.string ⟨#[]⟩, .string ⟨#[117]⟩, .string ⟨#[117]⟩, .string ⟨#[103]⟩, .string ⟨#[103]⟩, .string ⟨#[109]⟩, .string ⟨#[111]⟩] 58)).cell? ⟨w.heap.size + 1, 0, none⟩ = some (.string (mkS a)) := keepC (by simp [World.cell?, k1]) _
  have q1 : (w2.alloc (.cells #[.string ⟨#[]⟩, .string ⟨#[117]⟩, .string ⟨#[117]⟩, .string ⟨#[103]⟩, .string ⟨#[103]⟩, .string ⟨#[109]⟩, .string ⟨#[111]⟩] 58)).cell? ⟨w.heap.size + 1, 1, none⟩ = some (.string (mkS b)) := keepC (by simp [World.cell?, k1]) _
  have q2 : (w2.alloc (.cells #[.string ⟨#[]⟩, .string ⟨#[117]⟩, .string ⟨#[117]⟩, .string ⟨#[103]⟩, .string ⟨#[103]⟩, .string ⟨#[109]⟩, .string ⟨#[111]⟩] 58)).cell? ⟨w.heap.size + 1, 2, none⟩ = some (.string (mkS [x, y, z])) := keepC (by simp [World.cell?, k1]) _
  have m2 := below_next (below_alloc (below_alloc (Below.refl w.heap.size w) (.cells #[.int .i64 0, .int .i64 0, .int .i64 0] 27)) (.cells #[.string (mkS a), .string (mkS b), .string (mkS [x, y, z])] 9)) hb2
  have m5 : (w2.alloc (.cells #[.string ⟨#[]⟩, .string ⟨#[117]⟩, .string ⟨#[117]⟩, .string ⟨#[103]⟩, .string ⟨#[103]⟩, .string ⟨#[109]⟩, .string ⟨#[111]⟩] 58)).heap[w.heap.size]? = some (.cells #[.int .i64 0, .int .i64 0, .int .i64 0] 27) := blk_alloc k0 _
  have m3 := Aside0.mk (below_alloc m2 (.cells #[.string ⟨#[]⟩, .string ⟨#[117]⟩, .string ⟨#[117]⟩, .string ⟨#[103]⟩, .string ⟨#[103]⟩, .string ⟨#[109]⟩, .string ⟨#[111]⟩] 58))
  have m4 : (w2.alloc (.cells #[.string ⟨#[]⟩, .string ⟨#[117]⟩, .string ⟨#[117]⟩, .string ⟨#[103]⟩, .string ⟨#[103]⟩, .string ⟨#[109]⟩, .string ⟨#[111]⟩] 58)).heap.size = w2.heap.size + 1 := by simp
  generalize w2.alloc (.cells #[.string ⟨#[]⟩, .string ⟨#[117]⟩, .string ⟨#[117]⟩, .string ⟨#[103]⟩, .string ⟨#[103]⟩, .string ⟨#[109]⟩, .string ⟨#[111]⟩] 58) = w4 at n0 n1 n2 n3 n4 n5 n6 m1 q1 q2 m3 m4 m5 ⊢
  clear m2 k0 k1 hb2
  go_region_held3 (fun w' => w'.cell? ⟨w2.heap.size, 0, none⟩ = some (.string ⟨#[]⟩) ∧ w'.cell? ⟨w2.heap.size, 1, none⟩ = some (.string ⟨#[117]⟩) ∧ w'.cell? ⟨w2.heap.size, 2, none⟩ = some (.string ⟨#[117]⟩) ∧ w'.cell? ⟨w2.heap.size, 3, none⟩ = some (.string ⟨#[103]⟩) ∧ w'.cell? ⟨w2.heap.size, 4, none⟩ = some (.string ⟨#[103]⟩) ∧ w'.cell? ⟨w2.heap.size, 5, none⟩ = some (.string ⟨#[109]⟩) ∧ w'.cell? ⟨w2.heap.size, 6, none⟩ = some (.string ⟨#[111]⟩) ∧ w'.cell? ⟨w.heap.size + 1, 0, none⟩ = some (.string (mkS a)))
    (go_keep)
    ((go_at_call 40; go_split_ands; refine (index_heads _ a _ (by assumption) (by assumption) (by assumption) (by assumption) (by assumption) (by assumption) (by assumption)).mono ?_; rintro e w3 ⟨rfl, rfl⟩))
  all_goals
    have r1 : ((w4.alloc (.cells #[.int .i64 (headIdx a), .int .i64 0, .int .i64 0] 27)).drew).cell? ⟨w.heap.size + 1, 1, none⟩ = some (.string (mkS b)) := keepCd q1 _
    have r2 : ((w4.alloc (.cells #[.int .i64 (headIdx a), .int .i64 0, .int .i64 0] 27)).drew).cell? ⟨w.heap.size + 1, 2, none⟩ = some (.string (mkS [x, y, z])) := keepCd q2 _
    have r3 : ((w4.alloc (.cells #[.int .i64 (headIdx a), .int .i64 0, .int .i64 0] 27)).drew).heap[w2.heap.size + 1]? = some (.cells #[.int .i64 (headIdx a), .int .i64 0, .int .i64 0] 27) := by rw [← m4]; exact heap_alloc_new w4 _
    have r0 : ((w4.alloc (.cells #[.int .i64 (headIdx a), .int .i64 0, .int .i64 0] 27)).drew).heap[w.heap.size]? = some (.cells #[.int .i64 0, .int .i64 0, .int .i64 0] 27) := blk_drew (blk_alloc m5 _)
    have r4 := Aside0.mk (below_drew (below_alloc m3.out (.cells #[.int .i64 (headIdx a), .int .i64 0, .int .i64 0] 27)))
    have r5 : ((w4.alloc (.cells #[.int .i64 (headIdx a), .int .i64 0, .int .i64 0] 27)).drew).heap.size = w2.heap.size + 2 := by simp [m4]
    generalize (w4.alloc (.cells #[.int .i64 (headIdx a), .int .i64 0, .int .i64 0] 27)).drew = w5 at r0 r1 r2 r3 r4 r5 ⊢
    have p0 : w5.cell? ⟨w2.heap.size + 1, 0, none⟩ = some (.int .i64 (headIdx a)) := blk_cell r3 0
    have p1 : w5.cell? ⟨w2.heap.size + 1, 1, none⟩ = some (.int .i64 0) := blk_cell r3 1
    have p2 : w5.cell? ⟨w2.heap.size + 1, 2, none⟩ = some (.int .i64 0) := blk_cell r3 2
    have hbe : b.isEmpty = false := by cases b with | nil => exact absurd rfl hb | cons _ _ => rfl
    go_wp2_with fail
    refine (atoi_ok (mkS b) id _ (by simp; omega) (by simpa using hid)).mono ?_
    rintro e w7 ⟨rfl, hb7⟩
    have s0 := (hb7.block _ (blk_lt r0)).trans r0
    have s3 := (hb7.block _ (blk_lt r3)).trans r3
    have s2 := (hb7.cell (lt_of_cell r2)).trans r2
    have s5 := hb7.size
    rw [r5] at s5
    have s4 := Aside0.mk (below_next r4.out hb7)
    clear r0 r1 r2 r3 r4 r5 p0 p1 p2 hb7
    have p0 : w7.cell? ⟨w2.heap.size + 1, 0, none⟩ = some (.int .i64 (headIdx a)) := blk_cell s3 0
    have p1 : w7.cell? ⟨w2.heap.size + 1, 1, none⟩ = some (.int .i64 0) := blk_cell s3 1
    have p2 : w7.cell? ⟨w2.heap.size + 1, 2, none⟩ = some (.int .i64 0) := blk_cell s3 2
    have f0 := blk_frozen s3 0
    have f1 := blk_frozen s3 1
    go_wp2_with fail
    have hwr : wrap64 (headIdx a + 1) = headIdx a + 1 := w64 (by have := headIdx_le a; omega)
    rw [hwr]
    have r3 := blk_set (blk_set s3 0 (.int .i64 (headIdx a + 1))) 1 (.int .i64 id)
    have r0 := blk_far (blk_far s0 (p := ⟨w2.heap.size + 1, 0, none⟩) (by simp; omega) (.int .i64 (headIdx a + 1))) (p := ⟨w2.heap.size + 1, 1, none⟩) (by simp; omega) (.int .i64 id)
    have r4 := Aside0.mk (below_set (below_set s4.out (show w.heap.size ≤ w2.heap.size + 1 by omega) (j := 0) (v := .int .i64 (headIdx a + 1))) (show w.heap.size ≤ w2.heap.size + 1 by omega) (j := 1) (v := .int .i64 id))
    have r5 : ((w7.setCell ⟨w2.heap.size + 1, 0, none⟩ (.int .i64 (headIdx a + 1))).setCell ⟨w2.heap.size + 1, 1, none⟩ (.int .i64 id)).heap.size = w7.heap.size := by simp
    generalize (w7.setCell ⟨w2.heap.size + 1, 0, none⟩ (.int .i64 (headIdx a + 1))).setCell ⟨w2.heap.size + 1, 1, none⟩ (.int .i64 id) = w8 at r0 r3 r4 r5 ⊢
    obtain ⟨gb, hgb⟩ : ∃ gb, w7.heap.size = gb := ⟨_, rfl⟩
    rw [hgb] at r5 s5
    clear s0 s2 s3 s4 p0 p1 p2 f0 f1 hgb
    obtain ⟨w6, cap6, hcv, hb6, hz6, hby⟩ := conv_world (P := Tryd.prog) w8 9 22 5 (mkS [x, y, z]) Tryd.underlying9 Tryd.underlying22 Tryd.underlying5
    have r6 := (hb6.block _ (blk_lt r3)).trans r3
    have r60 := (hb6.block _ (blk_lt r0)).trans r0
    have HB6 := Aside0.mk (below_next r4.out hb6)
    have b0 := hby.cell 0 (by simp)
    have b1 := hby.cell 1 (by simp)
    have b2 := hby.cell 2 (by simp)
    have hcv2 : (convert 9 22 (.string (mkS [x, y, z]))).run Tryd.prog w8 = .ok (.slice (some ⟨gb, 0, none⟩) 3 cap6) w6 := by rw [hcv, r5]; simp
    rw [r5] at hz6 b0 b1 b2
    clear hcv hb6 hby
    simp only [data_mkS, List.getD_cons_zero, List.getD_cons_succ] at b0 b1 b2
    obtain ⟨P1, hP1⟩ : ∃ P, P = rights1 x := ⟨_, rfl⟩
    obtain ⟨P2, hP2⟩ : ∃ P, P = rights2 x y := ⟨_, rfl⟩
    obtain ⟨P3, hP3⟩ : ∃ P, P = rightsOf x y z := ⟨_, rfl⟩
    have HP1 := Aside0.mk hP1
    have HP2 := Aside0.mk hP2
    have HP3 := Aside0.mk hP3
    clear hP1 hP2 hP3
    rw [hcv2]
    go_wp2_with fail
    go_loopw [65] (fun v wr => ∃ j : Nat, j ≤ 3 ∧ v = .int .i64 j ∧ wr.heap[w2.heap.size + 1]? = some (.cells #[.int .i64 (headIdx a + 1), .int .i64 id, .int .i64 (if j = 0 then 0 else if j = 1 then P1 else if j = 2 then P2 else P3)] 27) ∧ wr.cell? ⟨gb, 0, none⟩ = some (.int .u8 x.toNat) ∧ wr.cell? ⟨gb, 1, none⟩ = some (.int .u8 y.toNat) ∧ wr.cell? ⟨gb, 2, none⟩ = some (.int .u8 z.toNat) ∧ Aside0 (Below w.heap.size w wr) ∧ wr.heap[w.heap.size]? = some (.cells #[.int .i64 0, .int .i64 0, .int .i64 0] 27)) (fun v _ => 3 - (intOf v).toNat)
    case atStart => exact ⟨0, by omega, rfl, r6, b0, b1, b2, HB6, r60⟩
    case round =>
      clear r6 b0 b1 b2 HB6 r60 r0 r3 r4 r5 hz6 hcv2
      obtain ⟨j, hj, rfl, g0, b0, b1, b2, HB, z0⟩ := hrel
      obtain rfl | rfl | rfl | rfl : j = 0 ∨ j = 1 ∨ j = 2 ∨ j = 3 := by omega
      · have c2 : wr.cell? ⟨w2.heap.size + 1, 2, none⟩ = some (.int .i64 0) := blk_cell g0 2
        have f2 := blk_frozen g0 2
        have g2 := blk_lt g0
        go_wp2_with fail
        · have hx : (_ == _) = true := ‹((x.toNat : Int) == _) = true›
          have hx2 : x = 114 := (byte_eq (n := 114) (by decide)).1 (beq_iff_eq.1 hx)
          have HX2 := Aside0.mk hx2
          clear hx2
          go_region_law fail
          go_wp2_with fail
          obtain ⟨t0, t1, t2, t3, t4, t5⟩ := part_next g0 b0 b1 b2 HB (by omega) (by omega) (Go.bits .or .i64 0 4) w.heap.size (by omega) z0
          go_roundw
          case measure => simp [intOf]
          case rel => exact ⟨1, by omega, rfl, by rw [t0]; simp [HP1.out, rights1, HX2.out, show Go.bits .or .i64 0 4 = 4 from by decide], t1, t2, t3, t4, t5⟩
        · have hx : (_ == _) = false := ‹((x.toNat : Int) == _) = false›
          have hx2 : ¬ x = 114 := by rintro rfl; exact absurd hx (by decide)
          exact ⟨⟨1, by omega, rfl, by rw [g0]; simp [HP1.out, rights1, hx2], b0, b1, b2, HB, z0⟩, by simp [intOf]⟩
      · have c2 : wr.cell? ⟨w2.heap.size + 1, 2, none⟩ = some (.int .i64 P1) := blk_cell g0 2
        have f2 := blk_frozen g0 2
        have g2 := blk_lt g0
        go_wp2_with fail
        · have hx : (_ == _) = true := ‹((y.toNat : Int) == _) = true›
          have hx2 : y = 119 := (byte_eq (n := 119) (by decide)).1 (beq_iff_eq.1 hx)
          have HX2 := Aside0.mk hx2
          clear hx2
          go_region_law fail
          go_wp2_with fail
          obtain ⟨t0, t1, t2, t3, t4, t5⟩ := part_next g0 b0 b1 b2 HB (by omega) (by omega) (Go.bits .or .i64 P1 2) w.heap.size (by omega) z0
          go_roundw
          case measure => simp [intOf]
          case rel => exact ⟨2, by omega, rfl, by rw [t0]; simp [HP2.out, rights2, HP1.out, HX2.out], t1, t2, t3, t4, t5⟩
        · have hx : (_ == _) = false := ‹((y.toNat : Int) == _) = false›
          have hx2 : ¬ y = 119 := by rintro rfl; exact absurd hx (by decide)
          exact ⟨⟨2, by omega, rfl, by rw [g0]; simp [HP2.out, rights2, HP1.out, hx2], b0, b1, b2, HB, z0⟩, by simp [intOf]⟩
      · have c2 : wr.cell? ⟨w2.heap.size + 1, 2, none⟩ = some (.int .i64 P2) := blk_cell g0 2
        have f2 := blk_frozen g0 2
        have g2 := blk_lt g0
        go_wp2_with fail
        · have hx : (_ == _) = true := ‹((z.toNat : Int) == _) = true›
          have hx2 : z = 120 := (byte_eq (n := 120) (by decide)).1 (beq_iff_eq.1 hx)
          have HX2 := Aside0.mk hx2
          clear hx2
          go_region_law fail
          go_wp2_with fail
          obtain ⟨t0, t1, t2, t3, t4, t5⟩ := part_next g0 b0 b1 b2 HB (by omega) (by omega) (Go.bits .or .i64 P2 1) w.heap.size (by omega) z0
          go_roundw
          case measure => simp [intOf]
          case rel => exact ⟨3, by omega, rfl, by rw [t0]; simp [HP3.out, rightsOf, HP2.out, HX2.out], t1, t2, t3, t4, t5⟩
        · have hx : (_ == _) = false := ‹((z.toNat : Int) == _) = false›
          have hx2 : ¬ z = 120 := by rintro rfl; exact absurd hx (by decide)
          exact ⟨⟨3, by omega, rfl, by rw [g0]; simp [HP3.out, rightsOf, HP2.out, hx2], b0, b1, b2, HB, z0⟩, by simp [intOf]⟩
      · have c0 : wr.cell? ⟨w2.heap.size + 1, 0, none⟩ = some (.int .i64 (headIdx a + 1)) := blk_cell g0 0
        have c1 : wr.cell? ⟨w2.heap.size + 1, 1, none⟩ = some (.int .i64 id) := blk_cell g0 1
        have c2 : wr.cell? ⟨w2.heap.size + 1, 2, none⟩ = some (.int .i64 P3) := blk_cell g0 2
        have d0 : wr.cell? ⟨w.heap.size, 0, none⟩ = some (.int .i64 0) := blk_cell z0 0
        have d1 : wr.cell? ⟨w.heap.size, 1, none⟩ = some (.int .i64 0) := blk_cell z0 1
        have d2 : wr.cell? ⟨w.heap.size, 2, none⟩ = some (.int .i64 0) := blk_cell z0 2
        have f0 := blk_frozen z0 0
        have f1 := blk_frozen z0 1
        have f2 := blk_frozen z0 2
        go_wp2_with fail
        refine bodyPost_ret (v := .agg #[.int .i64 (headIdx a + 1), .int .i64 id, .int .i64 P3]) (by simp [results, Tryd.results25, go_sem, d0, d1, d2]) rfl ⟨by rw [HP3.out], below_set (below_set (below_set HB.out (Nat.le_refl _)) (Nat.le_refl _)) (Nat.le_refl _)⟩
set_option maxHeartbeats 2000000 in
set_option maxRecDepth 100000 in
theorem part_d (s a b : List UInt8) (x y z : UInt8) (w : World) (hG : Good w) (hs : s.length < 1000000) (h : splitOn 58 s = [a, b, [x, y, z]]) (hh : ¬ headIdx a < 1) (hb : b ≠ []) (hbs : b.length ≤ 1000000) (hid : ∀ v, Lib.atoiAll b ≠ .ok v) :
    Calls Tryd.prog 25 #[.string (mkS s)] w fun e w' => e = .panicked (Chain 49 (.agg #[.string (mkS s)])) ∧ Below w.heap.size w w' := by
  have HG := Aside0.mk hG
  clear hG
  have H := Aside0.mk h
  clear h
  go_enter Tryd.func25, Tryd.ntmps25
  go_wp2_with (first
    | (go_at_call 24; refine (split3 s a b [x, y, z] _ (HG.out.below (below_alloc (Below.refl _ _) _)) hs H.out).mono ?_; rintro e w1 ⟨rfl, rfl⟩)
    | (go_at_call 30; refine (heads_agg _).mono ?_; rintro e w2 ⟨rfl, hb2⟩; obtain ⟨k0, k1, k2⟩ := part_cells _ _ _ _ _ hb2))
  have n0 : (w2.alloc (.cells #[.string ⟨#[]⟩, .string ⟨#[117]⟩, .string ⟨#[117]⟩, .string ⟨#[103]⟩, .string ⟨#[103]⟩, .string ⟨#[109]⟩, .string ⟨#[111]⟩] 58)).cell? ⟨w2.heap.size, 0, none⟩ = some (.string ⟨#[]⟩) := by simp [go_sem]
  have n1 : (w2.alloc (.cells #[.string ⟨#[]⟩, .string ⟨#[117]⟩, .string ⟨#[117]⟩, .string ⟨#[103]⟩, .string ⟨#[103]⟩, .string ⟨#[109]⟩, .string ⟨#[111]⟩] 58)).cell? ⟨w2.heap.size, 1, none⟩ = some (.string ⟨#[117]⟩) := by simp [go_sem]
  have n2 : (w2.alloc (.cells #[.string ⟨#[]⟩, .string ⟨#[117]⟩, .string ⟨#[117]⟩, .string ⟨#[103]⟩, .string ⟨#[103]⟩, .string ⟨#[109]⟩, .string ⟨#[111]⟩] 58)).cell? ⟨w2.heap.size, 2, none⟩ = some (.string ⟨#[117]⟩) := by simp [go_sem]
  have n3 : (w2.alloc (.cells #[.string ⟨#[]⟩, .string ⟨#[117]⟩, .string ⟨#[117]⟩, .string ⟨#[103]⟩, .string ⟨#[103]⟩, .string ⟨#[109]⟩, .string ⟨#[111]⟩] 58)).cell? ⟨w2.heap.size, 3, none⟩ = some (.string ⟨#[103]⟩) := by simp [go_sem]
  have n4 : (w2.alloc (.cells #[.string ⟨#[]⟩, .string ⟨#[117]⟩, .string ⟨#[117]⟩, .string ⟨#[103]⟩, .string ⟨#[103]⟩, .string ⟨#[109]⟩, .string ⟨#[111]⟩] 58)).cell? ⟨w2.heap.size, 4, none⟩ = some (.string ⟨#[103]⟩) := by simp [go_sem]
  have n5 : (w2.alloc (.cells #[.string ⟨#[]⟩, .string ⟨#[117]⟩, .string ⟨#[117]⟩, .string ⟨#[103]⟩, .string ⟨#[103]⟩, .string ⟨#[109]⟩, .string ⟨#[111]⟩] 58)).cell? ⟨w2.heap.size, 5, none⟩ = some (.string ⟨#[109]⟩) := by simp [go_sem]
  have n6 : (w2.alloc (.cells #[.string ⟨#[]⟩, .string ⟨#[117]⟩, .string ⟨#[117]⟩, .string ⟨#[103]⟩, .string ⟨#[103]⟩, .string ⟨#[109]⟩, .string ⟨#[111]⟩] 58)).cell? ⟨w2.heap.size, 6, none⟩ = some (.string ⟨#[111]⟩) := by simp [go_sem]
  have m1 : (w2.alloc (.cells #[.string ⟨#[]⟩, .string ⟨#[117]⟩, .string ⟨#[117]⟩, .string ⟨#[103]⟩, .string ⟨#[103]⟩, .string ⟨#[109]⟩, .string ⟨#[111]⟩] 58)).cell? ⟨w.heap.size + 1, 0, none⟩ = some (.string (mkS a)) := keepC (by simp [World.cell?, k1]) _
  have q1 : (w2.alloc (.cells #[.string ⟨#[]⟩, .string ⟨#[117]⟩, .string ⟨#[117]⟩, .string ⟨#[103]⟩, .string ⟨#[103]⟩, .string ⟨#[109]⟩, .string ⟨#[111]⟩] 58)).cell? ⟨w.heap.size + 1, 1, none⟩ = some (.string (mkS b)) := keepC (by simp [World.cell?, k1]) _
  have q2 : (w2.alloc (.cells #[.string ⟨#[]⟩, .string ⟨#[117]⟩, .string ⟨#[117]⟩, .string ⟨#[103]⟩, .string ⟨#[103]⟩, .string ⟨#[109]⟩, .string ⟨#[111]⟩] 58)).cell? ⟨w.heap.size + 1, 2, none⟩ = some (.string (mkS [x, y, z])) := keepC (by simp [World.cell?, k1]) _
  have m2 := below_next (below_alloc (below_alloc (Below.refl w.heap.size w) (.cells #[.int .i64 0, .int .i64 0, .int .i64 0] 27)) (.cells #[.string (mkS a), .string (mkS b), .string (mkS [x, y, z])] 9)) hb2
  have m5 : (w2.alloc (.cells #[.string ⟨#[]⟩, .string ⟨#[117]⟩, .string ⟨#[117]⟩, .string ⟨#[103]⟩, .string ⟨#[103]⟩, .string ⟨#[109]⟩, .string ⟨#[111]⟩] 58)).heap[w.heap.size]? = some (.cells #[.int .i64 0, .int .i64 0, .int .i64 0] 27) := blk_alloc k0 _
  have m3 := Aside0.mk (below_alloc m2 (.cells #[.string ⟨#[]⟩, .string ⟨#[117]⟩, .string ⟨#[117]⟩, .string ⟨#[103]⟩, .string ⟨#[103]⟩, .string ⟨#[109]⟩, .string ⟨#[111]⟩] 58))
  have m4 : (w2.alloc (.cells #[.string ⟨#[]⟩, .string ⟨#[117]⟩, .string ⟨#[117]⟩, .string ⟨#[103]⟩, .string ⟨#[103]⟩, .string ⟨#[109]⟩, .string ⟨#[111]⟩] 58)).heap.size = w2.heap.size + 1 := by simp
  generalize w2.alloc (.cells #[.string ⟨#[]⟩, .string ⟨#[117]⟩, .string ⟨#[117]⟩, .string ⟨#[103]⟩, .string ⟨#[103]⟩, .string ⟨#[109]⟩, .string ⟨#[111]⟩] 58) = w4 at n0 n1 n2 n3 n4 n5 n6 m1 q1 q2 m3 m4 m5 ⊢
  clear m2 k0 k1 hb2
  go_region_held3 (fun w' => w'.cell? ⟨w2.heap.size, 0, none⟩ = some (.string ⟨#[]⟩) ∧ w'.cell? ⟨w2.heap.size, 1, none⟩ = some (.string ⟨#[117]⟩) ∧ w'.cell? ⟨w2.heap.size, 2, none⟩ = some (.string ⟨#[117]⟩) ∧ w'.cell? ⟨w2.heap.size, 3, none⟩ = some (.string ⟨#[103]⟩) ∧ w'.cell? ⟨w2.heap.size, 4, none⟩ = some (.string ⟨#[103]⟩) ∧ w'.cell? ⟨w2.heap.size, 5, none⟩ = some (.string ⟨#[109]⟩) ∧ w'.cell? ⟨w2.heap.size, 6, none⟩ = some (.string ⟨#[111]⟩) ∧ w'.cell? ⟨w.heap.size + 1, 0, none⟩ = some (.string (mkS a)))
    (go_keep)
    ((go_at_call 40; go_split_ands; refine (index_heads _ a _ (by assumption) (by assumption) (by assumption) (by assumption) (by assumption) (by assumption) (by assumption)).mono ?_; rintro e w3 ⟨rfl, rfl⟩))
  all_goals
    have r1 : ((w4.alloc (.cells #[.int .i64 (headIdx a), .int .i64 0, .int .i64 0] 27)).drew).cell? ⟨w.heap.size + 1, 1, none⟩ = some (.string (mkS b)) := keepCd q1 _
    have r2 : ((w4.alloc (.cells #[.int .i64 (headIdx a), .int .i64 0, .int .i64 0] 27)).drew).cell? ⟨w.heap.size + 1, 2, none⟩ = some (.string (mkS [x, y, z])) := keepCd q2 _
    have r3 : ((w4.alloc (.cells #[.int .i64 (headIdx a), .int .i64 0, .int .i64 0] 27)).drew).heap[w2.heap.size + 1]? = some (.cells #[.int .i64 (headIdx a), .int .i64 0, .int .i64 0] 27) := by rw [← m4]; exact heap_alloc_new w4 _
    have r0 : ((w4.alloc (.cells #[.int .i64 (headIdx a), .int .i64 0, .int .i64 0] 27)).drew).heap[w.heap.size]? = some (.cells #[.int .i64 0, .int .i64 0, .int .i64 0] 27) := blk_drew (blk_alloc m5 _)
    have r4 := Aside0.mk (below_drew (below_alloc m3.out (.cells #[.int .i64 (headIdx a), .int .i64 0, .int .i64 0] 27)))
    have r5 : ((w4.alloc (.cells #[.int .i64 (headIdx a), .int .i64 0, .int .i64 0] 27)).drew).heap.size = w2.heap.size + 2 := by simp [m4]
    generalize (w4.alloc (.cells #[.int .i64 (headIdx a), .int .i64 0, .int .i64 0] 27)).drew = w5 at r0 r1 r2 r3 r4 r5 ⊢
    have p0 : w5.cell? ⟨w2.heap.size + 1, 0, none⟩ = some (.int .i64 (headIdx a)) := blk_cell r3 0
    have p1 : w5.cell? ⟨w2.heap.size + 1, 1, none⟩ = some (.int .i64 0) := blk_cell r3 1
    have p2 : w5.cell? ⟨w2.heap.size + 1, 2, none⟩ = some (.int .i64 0) := blk_cell r3 2
    have hbe : b.isEmpty = false := by cases b with | nil => exact absurd rfl hb | cons _ _ => rfl
    go_wp2_with fail
    refine (atoi_bad (mkS b) _ (HG.out.below r4.out) (by simp; omega) (by simpa using hid)).mono ?_
    rintro e w7 ⟨⟨v, te, pp, rfl⟩, hb7⟩
    have s4 := Aside0.mk (below_next r4.out hb7)
    clear r0 r1 r2 r3 r4 r5 p0 p1 p2 hb7
    go_wp2_with fail
    exact ⟨rfl, rfl, s4.out⟩
/-- What part comes to. -/
theorem part_some (s : List UInt8) (t : Ace) (w : World) (hG : Good w) (hs : s.length < 1000000) (h : partL s = some t) :
    Calls Tryd.prog 25 #[.string (mkS s)] w fun e w' => e = .returned (.agg #[.int .i64 t.f0, .int .i64 t.f1, .int .i64 t.f2]) ∧ Below w.heap.size w w' := by
  unfold partL at h
  split at h
  · rename_i a b c hsp
    split at h
    · rename_i x y z
      have hbl := splitOn_le 58 s b (by rw [hsp]; simp)
      split at h
      · cases h
      · rename_i hh
        split at h
        · rename_i hb
          subst hb
          cases h
          exact part_e s a x y z w hG hs hsp hh
        · rename_i hb
          split at h
          · rename_i id hid
            cases h
            exact part_f s a b x y z id w hG hs hsp hh hb (by omega) hid
          · cases h
    · cases h
  · cases h
theorem part_none (s : List UInt8) (w : World) (hG : Good w) (hs : s.length < 1000000) (h : partL s = none) :
    Calls Tryd.prog 25 #[.string (mkS s)] w fun e w' => e = .panicked (Chain 49 (.agg #[.string (mkS s)])) ∧ Below w.heap.size w w' := by
  unfold partL at h
  split at h
  · rename_i a b c hsp
    split at h
    · rename_i x y z
      have hbl := splitOn_le 58 s b (by rw [hsp]; simp)
      split at h
      · rename_i hh
        exact part_h s a b _ w hG hs hsp rfl hh
      · rename_i hh
        split at h
        · cases h
        · rename_i hb
          split at h
          · cases h
          · rename_i hid
            exact part_d s a b x y z w hG hs hsp hh hb (by omega) hid
    · rename_i hc
      refine part_c s a b c w hG hs hsp (fun hl => ?_)
      match c, hl with
      | [x, y, z], _ => exact hc x y z rfl
  · rename_i hc
    refine part_long s w hG hs (fun hl => ?_)
    match hq : splitOn 58 s, hl with
    | [a, b, c], _ => exact hc a b c hq
end Go.Proofs.YtejgnnhmeolphaaDoor
