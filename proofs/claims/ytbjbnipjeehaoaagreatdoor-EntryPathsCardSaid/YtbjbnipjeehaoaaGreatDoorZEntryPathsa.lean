/- Lemmas for EntryPaths: What all texts of this seat import: the kit's words for walks, deferred calls and panics, and small lemmas. Plain lemmas: strings as lists of bytes, numbers of a kind, wraps. No program in sight. Plain lemmas: a text cut at each of a byte. DERIVED: THE SHELF's CONTRACTS AT THIS DUMP, IN PLAIN WORDS (tools/lay-plain.mjs out of 'TryzShelf.lean', which tools/lay-shelf.mjs wrote): THE SAME DECLARATIONS UNDER THE SAME NAMES: 'import', 'namespace', 'open', 'def', 'theorem' AND NOTHING ELSE: no command of the shelf's: FOR A HAND-IN. Each laying: the table of numbers ('.._ren') and one theorem, a field a fact of the dump's own or the kernel's comparison; each contract: ONE APPLICATION. What the library's tables hold, for entry and beyond: kept by whatever only makes memory. Itoa, Atoi, Split, Join by the shelf's contracts. Plain lemmas: numbers as text, and texts cut at a byte. No program in sight. Plain laws of times: a time's text, the time of a text. No program in sight. Functions of Go's library as plain Lean functions, by the shelf's contracts, in the print's form. stamp.May, stamp.Text. Small functions under entry, where little is said: flags, caps, names, lists that are empty. Numbers in fields of a header, by eights and by bytes: the plain law. A header as data, its block, what bytes say: the plain law. A new row of bytes 0, and the string of it. num: must, wide, octal. slices.Reverse of bytes. num.base: a number by bytes. num.try over num's closures. num: Octal, Base, Field. -/
import Derived.Test.YtbjbnipjeehaoaaGreatDoorProg
import Derived.Below
import Derived.Deep.Draws
import Derived.Deep.AppendLies
import Derived.Maps.AppendAt
import Derived.OwnWalk
import Derived.Laws.BytesArg
import Derived.Laws.MakeOwn
import Derived.Laws.OwnMore
import Derived.Deep.OwnRows
import Derived.Tactics
import Derived.Tactics2
import Derived.Lib.ConvBytes
import Derived.Laws.Slices
import Derived.WalkKit
import Derived.KernelRfl
import Derived.RowKit3
import Derived.Deep.LoopGhost
import Derived.Deep.QuietTactic
import Derived.BigQuiet
import Derived.WideLaws
import Derived.Deep.DeepCutAuto
import Derived.Deep.CutBlock
import Derived.Deep.RegionHeld3
import Derived.Laws.Rows
import Derived.Lib.AppendStr
import Derived.ArgAppend
import Derived.Laws.IdiomCopy
import Derived.OrdersHeld
import Derived.Laws.BitsLemmas
import Derived.RowKit
import Derived.WalkLawsBesides
import Derived.WalkSpells
import Derived.WalkSmall
import Derived.Defers
import Derived.Recover
import Derived.Laws.Pointers
import Derived.Laws.DeepStrings4
import Derived.Outline
import Derived.Handy
import Derived.Lib.Hide
import Derived.Lib.SlBytesConst
import Derived.Lib.SmallJoins
import Derived.Test.YtbjbnipjeehaoaaGreatDoorWWords
import Derived.Test.YtbjbnipjeehaoaaGreatDoorWLast
import Derived.Lib.TrimByte
import Derived.Lib.Repeat
import Derived.Lib.Strings
import Derived.Lib.SplitLaws
import Derived.Shelf.Strings.Builder1
import Derived.Shelf.Strings.Builder2
import Derived.Shelf.Strings.OnBuilder
import Derived.Shelf.Strings.Trim
import Derived.Shelf.Small.Utf8
import Derived.Shelf.Small.Strs
import Derived.Shelf.Small.Wraps
import Derived.Shelf.Strings.BuilderF
import Derived.Shelf.Strings.BuilderK
import Derived.Shelf.Utf8.RuneCount
import Derived.Shelf.Strings.Builder2Cap
import Derived.Shelf.Strconv.Atoi
import Derived.Shelf.Strconv.Itoa0
import Derived.Shelf.Strconv.Itoa1
import Derived.Shelf.LaysM
import Derived.Shelf.Strconv.Itoa2
import Derived.Shelf.Strconv.Itoa3
import Derived.Shelf.Strconv.AtoiErrFast
import Derived.Shelf.Strconv.ParseIntEmpty
import Derived.Shelf.Strconv.AtoiFail
import Derived.Shelf.Strconv.Clone
import Derived.Shelf.Strconv.SyntaxError
import Derived.Shelf.LaysC
import Derived.Shelf.Strconv.ToError
import Derived.Shelf.Strconv.Lower
import Derived.Shelf.Strconv.ParseUint10
import Derived.Shelf.Strconv.ParseUint10Empty
import Derived.Shelf.Strconv.ParseUint10Any
import Derived.Shelf.Strconv.ParseInt10
import Derived.Shelf.Strconv.AtoiLong
import Derived.Shelf.Strconv.AtoiInnerAll
import Derived.Shelf.Strconv.RangeError
import Derived.Shelf.Strconv.ToErrorRange
import Derived.Shelf.Strconv.AtoiAll
import Derived.Shelf.Strconv.ParseUintEmpty
import Derived.Shelf.Strconv.ParseUint10b64
import Derived.Shelf.Strconv.ParseUint10b32
import Derived.Shelf.Strconv.ParseUint10b16
import Derived.Shelf.Strconv.ParseUint10b8
import Derived.Shelf.Strings.Search1
import Derived.Shelf.Strings.Search2
import Derived.Shelf.Strings.Search3
import Derived.Shelf.Strings.Cut
import Derived.Shelf.Strings.Count
import Derived.Shelf.Strings.Shaped
import Derived.Shelf.Strings.Prefix
import Derived.Shelf.Strings.Split
import Derived.Shelf.Strings.SplitShaped
import Derived.Shelf.Unicode.Decode
import Derived.Shelf.Strings.Runes
import Derived.Shelf.Strings.RuneCount
import Derived.Shelf.Strings.IndexAny
import Derived.Shelf.Strings.AsciiSet
import Derived.Shelf.Strings.IndexAnyAll
import Derived.Shelf.Strings.Explode
import Derived.Shelf.Bits.Mul64
import Derived.Shelf.Strings.Repeat
import Derived.Shelf.Unicode.DecodeSlow
import Derived.Shelf.Unicode.DecodeAny
import Derived.Shelf.Unicode.DecodeLast
import Derived.Shelf.Strings.BuilderCap
import Derived.ChangeAgain
import Derived.Lib.LaidTab
import Derived.Lib.ItoaLen
import Derived.Lib.AtoiAll
import Derived.Lib.IndexMore
import Derived.Lib.SlTrimSet
import Derived.Lib.Builder
import Derived.Deep.RegionLaw
import Derived.RegionTactic
import Derived.Laws.CopyOwn
import Derived.Lib.IndexLaws
import Derived.MapFrom
import Derived.WideMake
import Derived.Laws.IdiomRangeMap
set_option linter.unusedVariables false
set_option linter.unusedSimpArgs false
namespace Go.Proofs.YtbjbnipjeehaoaaGreatDoor
open Go.RowKit
/- Draws outermost, as the walk has one draw. -/
@[go_sem] theorem alloc_drewN (w : World) (n : Nat) (o : Obj) : (w.drewN n).alloc o = (w.alloc o).drewN n := rfl
@[go_sem] theorem setCell_drewN (w : World) (n : Nat) (a : Addr) (v : Value) : (w.drewN n).setCell a v = (w.setCell a v).drewN n := rfl
theorem below_drewN {B : Nat} {w w' : World} (h : Below B w w') (n : Nat) : Below B w (w'.drewN n) := ⟨h.os, h.tape, h.output, h.size, h.block⟩
theorem below_next {B : Nat} {w w1 w2 : World} (h : Below B w w1) (k : Below w1.heap.size w1 w2) (hB : B ≤ w.heap.size := by exact Nat.le_refl _) : Below B w w2 :=
  h.trans ⟨k.os, k.tape, k.output, k.size, fun i hi => k.block i (Nat.lt_of_lt_of_le hi (Nat.le_trans hB h.size))⟩
/- A new block that bears a conversion's mark behind its cells. -/
@[go_sem] theorem marked_cell (w : World) (C : Array Value) (t : TypeId) (fr : Nat × Nat) (n j : Nat) (hn : n = w.heap.size) : (w.alloc (.cells C t fr)).cell? ⟨n, j, none⟩ = C[j]? := by
  subst hn; exact World.cell?_alloc_mark w C t fr j
@[go_sem] theorem marked_frozen (w : World) (C : Array Value) (t : TypeId) (lo hi n j : Nat) (hn : n = w.heap.size) : (w.alloc (.cells C t (lo, hi))).frozen? ⟨n, j, none⟩ = (decide (lo ≤ j) && decide (j < hi)) := by
  subst hn; exact World.frozen?_alloc_mark w C t lo hi j
@[go_sem] theorem marked_setCell (w : World) (C : Array Value) (t : TypeId) (fr : Nat × Nat) (n i : Nat) (v : Value) (hn : n = w.heap.size) : (w.alloc (.cells C t fr)).setCell ⟨n, i, none⟩ v = w.alloc (.cells (C.setIfInBounds i v) t fr) := by
  subst hn
  have hm : ∀ (a : Array Obj) (x : Obj) (f : Obj → Obj), (a.push x).modify a.size f = a.push (f x) := by
    intro a x f
    apply Array.ext
    · simp
    · intro i h1 h2
      simp only [Array.getElem_modify, Array.getElem_push]
      by_cases h : a.size = i
      · subst h
        simp
      · have hi : i < a.size := by simp at h1; omega
        simp [h, hi]
  unfold World.setCell
  show ({ w.alloc (.cells C t fr) with heap := (w.heap.push (.cells C t fr)).modify w.heap.size _ } : World) = _
  rw [hm]
  rfl
theorem heap_two (w : World) (o1 o2 : Obj) : ((w.alloc o1).alloc o2).heap[w.heap.size]? = some o1 ∧ ((w.alloc o1).alloc o2).heap[w.heap.size + 1]? = some o2 := by
  constructor
  · show ((w.heap.push o1).push o2)[w.heap.size]? = _
    rw [Array.getElem?_push_lt (by simp)]
    simp
  · show ((w.heap.push o1).push o2)[w.heap.size + 1]? = _
    rw [show w.heap.size + 1 = (w.heap.push o1).size by simp, Array.getElem?_push_size]
theorem blk_miss {w : World} {g g' i : Nat} {v : Value} {o : Obj} (h : w.heap[g]? = some o) (hne : g ≠ g') : (w.setCell ⟨g', i, none⟩ v).heap[g]? = some o := by
  rw [← h]
  simp only [World.setCell, Array.getElem?_modify]
  rw [if_neg (Ne.symm hne)]
/-- The panic chain of one panic with a value of the named type t. -/
def Chain (t : TypeId) (v : Value) : List PanicEntry := [{ v := .iface t v, recovered := false }]
/-- 'x.(T)' with ok, T a struct type, where x holds a T. -/
theorem run_typeAssert_struct {P : Program} (t xT : TypeId) (v : Value) (w : World) {fs : Array Field} (h : P.underlying t = some (.struct fs)) :
    (Instr.typeAssert (.iface t v) xT t true).run P w = .ok (.tuple #[v, .bool true]) w := by
  simp [Instr.typeAssert, run_underlying h]
/- A quiet call behind a quiet region: the walk has joined the draws. -/
/- A call that panics, inside a region that is walked in all orders: the panic's goal is closed, and the way that is not there is left, under False. -/
end Go.Proofs.YtbjbnipjeehaoaaGreatDoor
namespace Go.Proofs.YtbjbnipjeehaoaaGreatDoor
open Go.RowKit Go.Proofs.YtbjbnipjeehaoaaGreatDoorW.PrintWords
/-- The string of a list of bytes. -/
def mkS (l : List UInt8) : ByteArray := ⟨l.toArray⟩
theorem mkS_data (s : ByteArray) : mkS s.data.toList = s := by cases s; simp [mkS]
@[simp] theorem data_mkS (l : List UInt8) : (mkS l).data.toList = l := by simp [mkS]
@[simp] theorem size_mkS (l : List UInt8) : (mkS l).size = l.length := by simp [mkS, ByteArray.size]
@[simp] theorem toList_mkS (l : List UInt8) : (mkS l).toList = l := by rw [Lib.toList_data, data_mkS]
theorem mkS_inj {a b : List UInt8} : mkS a = mkS b ↔ a = b := ⟨fun h => by simpa using congrArg (fun s => s.data.toList) h, fun h => by rw [h]⟩
theorem append_mkS (a b : List UInt8) : mkS a ++ mkS b = mkS (a ++ b) := by
  have h : (mkS a ++ mkS b).data.toList = a ++ b := by simp
  rw [← mkS_data (mkS a ++ mkS b), h]
theorem extract_mkS (l : List UInt8) (a b : Nat) : (mkS l).extract a b = mkS ((l.drop a).take (b - a)) := by
  have h : ((mkS l).extract a b).data.toList = (l.drop a).take (b - a) := by simp
  rw [← mkS_data ((mkS l).extract a b), h]
theorem wf_u8 {n : Int} (h : (Lit.int .u8 n).wf = true) : 0 ≤ n ∧ n ≤ 255 := by
  simp only [Lit.wf, Bool.and_eq_true, decide_eq_true_eq] at h; exact h
end Go.Proofs.YtbjbnipjeehaoaaGreatDoor
namespace Go.Proofs.YtbjbnipjeehaoaaGreatDoor
open Go.RowKit
/-- A text cut at each of a byte. -/
def splitOn (c : UInt8) : List UInt8 → List (List UInt8)
  | [] => [[]]
  | b :: l => if b = c then [] :: splitOn c l else match splitOn c l with
    | [] => [[b]]
    | x :: r => (b :: x) :: r
theorem splitOn_ne (c : UInt8) (l : List UInt8) : splitOn c l ≠ [] := by
  cases l with
  | nil => simp [splitOn]
  | cons b l =>
    simp only [splitOn]
    split
    · simp
    · split <;> simp
theorem splitK_miss (c : UInt8) (k : Nat) (s : List UInt8) (h : Lib.index s [c] = -1) : Lib.splitK [c] 0 k s = [s] := by
  cases k with
  | zero => rfl
  | succ k => simp [Lib.splitK, h]
theorem splitK_cons (c b : UInt8) (l : List UInt8) (k : Nat) (hb : b ≠ c) : Lib.splitK [c] 0 k (b :: l) = match Lib.splitK [c] 0 k l with | [] => [[b]] | x :: r => (b :: x) :: r := by
  have hp : ([c] : List UInt8).isPrefixOf (b :: l) = false := by simp [List.isPrefixOf, Ne.symm hb]
  have hix : Lib.index (b :: l) [c] = if Lib.index l [c] == -1 then -1 else Lib.index l [c] + 1 := by rw [Lib.index, hp]; simp
  by_cases hm : Lib.index l [c] = -1
  · rw [splitK_miss c k l hm, splitK_miss c k (b :: l) (by rw [hix, if_pos (beq_iff_eq.2 hm)])]
  · have hge := Lib.index_ge l [c]
    obtain ⟨j, hj⟩ : ∃ j : Nat, Lib.index l [c] = j := ⟨(Lib.index l [c]).toNat, by omega⟩
    have hix' : Lib.index (b :: l) [c] = ((j + 1 : Nat) : Int) := by rw [hix, if_neg (fun e => hm (beq_iff_eq.1 e)), hj]; omega
    cases k with
    | zero => rfl
    | succ k =>
      have e1 : (((j + 1 : Nat) : Int) == -1) = false := by rw [beq_eq_false_iff_ne]; omega
      have e2 : (((j : Nat) : Int) == -1) = false := by rw [beq_eq_false_iff_ne]; omega
      simp only [Lib.splitK, hix', hj, e1, e2, Int.toNat_natCast]
      simp
theorem splitK_on (c : UInt8) : ∀ l : List UInt8, Lib.splitK [c] 0 (Lib.count l [c]) l = splitOn c l
  | [] => by
    rw [splitK_miss c _ [] (by simp [Lib.index])]; rfl
  | b :: l => by
    by_cases h : b = c
    · subst h
      have hix : Lib.index (b :: l) [b] = ((0 : Nat) : Int) := by rw [Lib.index]; simp [List.isPrefixOf]
      have e1 : (((0 : Nat) : Int) == -1) = false := by decide
      rw [Lib.count_cons_eq, Nat.add_comm]
      simp only [Lib.splitK, hix, e1, Int.toNat_natCast, splitOn, if_true]
      have := splitK_on b l
      simp [this]
    · rw [Lib.count_cons_ne b c l h, splitK_cons c b l _ h, splitK_on c l]
      simp only [splitOn, if_neg h]
theorem splitOn_length (c : UInt8) (l : List UInt8) : (splitOn c l).length = l.count c + 1 := by
  induction l with
  | nil => rfl
  | cons b l ih =>
    simp only [splitOn]
    split
    · rename_i h; subst h; simp [ih]
    · rename_i h
      rw [List.count_cons_of_ne (by simpa using h)]
      cases hs : splitOn c l with
      | nil => exact absurd hs (splitOn_ne c l)
      | cons x r => rw [hs] at ih; simpa using ih
theorem splitB_on (c : UInt8) (l : List UInt8) : Lib.splitB ⟨#[c]⟩ 0 (Lib.countB (mkS l) ⟨#[c]⟩) (mkS l) = (splitOn c l).map mkS := by
  have h := Lib.splitB_data ⟨#[c]⟩ 0 (Lib.countB (mkS l) ⟨#[c]⟩) (mkS l)
  have e : Lib.countB (mkS l) ⟨#[c]⟩ = Lib.count l [c] := by unfold Lib.countB; rw [data_mkS]
  rw [e] at h ⊢
  rw [data_mkS, splitK_on] at h
  rw [← h, List.map_map]
  conv => lhs; rw [← List.map_id (Lib.splitB _ _ _ _)]
  apply List.map_congr_left
  intro s _
  simp [mkS_data]
theorem countB_on (c : UInt8) (l : List UInt8) : Lib.countB (mkS l) ⟨#[c]⟩ + 1 = (splitOn c l).length := by
  rw [splitOn_length]
  unfold Lib.countB
  rw [data_mkS, Lib.count_one]
end Go.Proofs.YtbjbnipjeehaoaaGreatDoor
namespace Go.Proofs
open Go.Shelf
def Tryz.lays169_ren : Go.Shelf.Ren := ⟨fun | 169 => 125 | n => n, fun | 70 => 145 | 9 => 9 | 0 => 0 | 72 => 147 | 37 => 22 | 127 => 202 | 3 => 3 | 5 => 5 | n => n, fun | n => n⟩
theorem Tryz.lays169 : Go.Proofs.Lays.n169 Tryz.prog Tryz.lays169_ren := {
  mixed := by kernel_rfl
  f169 := Tryz.func125.trans (congrArg some (by kernel_rfl))
  t0 := Tryz.underlying0
  a0 := Tryz.isAgg0
  z0 := Tryz.sizeOf0
  v0 := Tryz.zeroValue0
  t3 := Tryz.underlying3
  a3 := Tryz.isAgg3
  z3 := Tryz.sizeOf3
  v3 := Tryz.zeroValue3
  t9 := Tryz.underlying9
  a9 := Tryz.isAgg9
  z9 := Tryz.sizeOf9
  v9 := Tryz.zeroValue9
  t37 := Tryz.underlying22
  a37 := Tryz.isAgg22
  z37 := Tryz.sizeOf22
  v37 := Tryz.zeroValue22
  t70 := Tryz.underlying145
  a70 := Tryz.isAgg145
  z70 := Tryz.sizeOf145
  v70 := Tryz.zeroValue145
  t72 := Tryz.underlying147
  a72 := Tryz.isAgg147
  z72 := Tryz.sizeOf147
  v72 := Tryz.zeroValue147
  t127 := Tryz.underlying202
  a127 := Tryz.isAgg202
  z127 := Tryz.sizeOf202
  v127 := Tryz.zeroValue202 }
theorem Tryz.Builder_Extra_169 : Builder.Extra Tryz.prog Tryz.lays169_ren := {
  sizeBuilder := by kernel_rfl
  liesBuilder := by kernel_rfl
  t5 := Tryz.underlying5
  a5 := Tryz.isAgg5
  z5 := Tryz.sizeOf5
  v5 := Tryz.zeroValue5
  infoByte := by kernel_rfl
  cellsByte := by kernel_rfl
  sizeByte := by kernel_rfl
  neB5 := by decide }
open Go.RowKit in
/-- (*strings.Builder).String OF A BUILDER THAT HOLDS NO BYTE: the empty string. (Its buffer is nil, or a row of which it has taken nothing yet; where that row has NO capacity the model lays one new block for unsafe.SliceData's 'some address'.) One draw. (LAID: no walk: one application.) -/
theorem Tryz.Builder_String_empty (B b : Nat) (w : World) (h : Lib.IsBuilder 147 5 B b [] w) (hBw : B ≤ w.heap.size) :
    Calls Tryz.prog 125 #[.pointer (some ⟨b, 0, none⟩)] w fun e w' => e = .returned (.string ⟨#[]⟩) ∧ Below B w w' := Any.Builder_String_empty Tryz.lays169 Tryz.Builder_Extra_169 B b w h hBw
def Tryz.lays156_ren : Go.Shelf.Ren := ⟨fun | 156 => 120 | 165 => 187 | 166 => 123 | 169 => 125 | 240 => 189 | 241 => 235 | 276 => 236 | 277 => 271 | n => n, fun | 31 => 46 | 9 => 9 | 3 => 3 | 4 => 4 | 0 => 0 | 20 => 20 | 72 => 147 | 76 => 150 | 70 => 145 | 37 => 22 | 75 => 149 | 127 => 202 | 164 => 250 | 5 => 5 | 80 => 152 | n => n, fun | n => n⟩
theorem Tryz.lays156 : Go.Proofs.Lays.n156 Tryz.prog Tryz.lays156_ren := {
  mixed := by kernel_rfl
  f156 := Tryz.func120.trans (congrArg some (by kernel_rfl))
  f165 := Tryz.func187.trans (congrArg some (by kernel_rfl))
  f166 := Tryz.func123.trans (congrArg some (by kernel_rfl))
  f169 := Tryz.func125.trans (congrArg some (by kernel_rfl))
  f240 := Tryz.func189.trans (congrArg some (by kernel_rfl))
  f241 := Tryz.func235.trans (congrArg some (by kernel_rfl))
  f276 := Tryz.func236.trans (congrArg some (by kernel_rfl))
  f277 := Tryz.func271.trans (congrArg some (by kernel_rfl))
  t0 := Tryz.underlying0
  a0 := Tryz.isAgg0
  z0 := Tryz.sizeOf0
  v0 := Tryz.zeroValue0
  t3 := Tryz.underlying3
  a3 := Tryz.isAgg3
  z3 := Tryz.sizeOf3
  v3 := Tryz.zeroValue3
  t4 := Tryz.underlying4
  a4 := Tryz.isAgg4
  z4 := Tryz.sizeOf4
  v4 := Tryz.zeroValue4
  t9 := Tryz.underlying9
  a9 := Tryz.isAgg9
  z9 := Tryz.sizeOf9
  v9 := Tryz.zeroValue9
  t20 := Tryz.underlying20
  a20 := Tryz.isAgg20
  z20 := Tryz.sizeOf20
  v20 := Tryz.zeroValue20
  t31 := Tryz.underlying46
  a31 := Tryz.isAgg46
  z31 := Tryz.sizeOf46
  v31 := Tryz.zeroValue46
  t37 := Tryz.underlying22
  a37 := Tryz.isAgg22
  z37 := Tryz.sizeOf22
  v37 := Tryz.zeroValue22
  t70 := Tryz.underlying145
  a70 := Tryz.isAgg145
  z70 := Tryz.sizeOf145
  v70 := Tryz.zeroValue145
  t72 := Tryz.underlying147
  a72 := Tryz.isAgg147
  z72 := Tryz.sizeOf147
  v72 := Tryz.zeroValue147
  t75 := Tryz.underlying149
  a75 := Tryz.isAgg149
  z75 := Tryz.sizeOf149
  v75 := Tryz.zeroValue149
  t76 := Tryz.underlying150
  a76 := Tryz.isAgg150
  z76 := Tryz.sizeOf150
  v76 := Tryz.zeroValue150
  t127 := Tryz.underlying202
  a127 := Tryz.isAgg202
  z127 := Tryz.sizeOf202
  v127 := Tryz.zeroValue202
  t164 := Tryz.underlying250
  a164 := Tryz.isAgg250
  z164 := Tryz.sizeOf250
  v164 := Tryz.zeroValue250 }
theorem Tryz.Builder_Extra_156 : Builder.Extra Tryz.prog Tryz.lays156_ren := {
  sizeBuilder := by kernel_rfl
  liesBuilder := by kernel_rfl
  t5 := Tryz.underlying5
  a5 := Tryz.isAgg5
  z5 := Tryz.sizeOf5
  v5 := Tryz.zeroValue5
  infoByte := by kernel_rfl
  cellsByte := by kernel_rfl
  sizeByte := by kernel_rfl
  neB5 := by decide }
open Go.RowKit in
/-- No element: the empty string; the world is as it was. (Whatever the slice's address and capacity: a nil slice too.) (LAID: no walk: one application.) -/
theorem Tryz.strings_Join_none (a : Option Addr) (c : Nat) (sep : ByteArray) (w : World) :
    Calls Tryz.prog 120 #[.slice a 0 c, .string sep] w fun e w' => e = .returned (.string ⟨#[]⟩) ∧ w' = w := Any.strings_Join_none Tryz.lays156 Tryz.Builder_Extra_156 a c sep w
def Tryz.lays162_ren : Go.Shelf.Ren := ⟨fun | 162 => 116 | 232 => 181 | 227 => 182 | 234 => 183 | 236 => 184 | 228 => 229 | 271 => 230 | 151 => 231 | 120 => 270 | 197 => 241 | 152 => 262 | 260 => 277 | 137 => 137 | 119 => 288 | 224 => 244 | 225 => 243 | 217 => 195 | 266 => 237 | n => n, fun | 9 => 9 | 4 => 4 | 3 => 3 | 5 => 5 | 117 => 193 | 116 => 192 | 0 => 0 | 124 => 196 | 21 => 21 | 105 => 243 | 46 => 128 | 119 => 292 | 139 => 295 | 138 => 294 | n => n, fun | 3 => 2 | 4 => 3 | n => n⟩
theorem Tryz.lays162 : Go.Proofs.Lays.n162 Tryz.prog Tryz.lays162_ren := {
  mixed := by kernel_rfl
  f119 := Tryz.func288.trans (congrArg some (by kernel_rfl))
  f120 := Tryz.func270.trans (congrArg some (by kernel_rfl))
  f137 := Tryz.func137.trans (congrArg some (by kernel_rfl))
  f151 := Tryz.func231.trans (congrArg some (by kernel_rfl))
  f152 := Tryz.func262.trans (congrArg some (by kernel_rfl))
  f162 := Tryz.func116.trans (congrArg some (by kernel_rfl))
  f197 := Tryz.func241.trans (congrArg some (by kernel_rfl))
  f217 := Tryz.func195.trans (congrArg some (by kernel_rfl))
  f224 := Tryz.func244.trans (congrArg some (by kernel_rfl))
  f225 := Tryz.func243.trans (congrArg some (by kernel_rfl))
  f227 := Tryz.func182.trans (congrArg some (by kernel_rfl))
  f228 := Tryz.func229.trans (congrArg some (by kernel_rfl))
  f232 := Tryz.func181.trans (congrArg some (by kernel_rfl))
  f234 := Tryz.func183.trans (congrArg some (by kernel_rfl))
  f236 := Tryz.func184.trans (congrArg some (by kernel_rfl))
  f260 := Tryz.func277.trans (congrArg some (by kernel_rfl))
  f266 := Tryz.func237.trans (congrArg some (by kernel_rfl))
  f271 := Tryz.func230.trans (congrArg some (by kernel_rfl))
  t0 := Tryz.underlying0
  a0 := Tryz.isAgg0
  z0 := Tryz.sizeOf0
  v0 := Tryz.zeroValue0
  t3 := Tryz.underlying3
  a3 := Tryz.isAgg3
  z3 := Tryz.sizeOf3
  v3 := Tryz.zeroValue3
  t4 := Tryz.underlying4
  a4 := Tryz.isAgg4
  z4 := Tryz.sizeOf4
  v4 := Tryz.zeroValue4
  t5 := Tryz.underlying5
  a5 := Tryz.isAgg5
  z5 := Tryz.sizeOf5
  v5 := Tryz.zeroValue5
  t9 := Tryz.underlying9
  a9 := Tryz.isAgg9
  z9 := Tryz.sizeOf9
  v9 := Tryz.zeroValue9
  t21 := Tryz.underlying21
  a21 := Tryz.isAgg21
  z21 := Tryz.sizeOf21
  v21 := Tryz.zeroValue21
  t46 := Tryz.underlying128
  a46 := Tryz.isAgg128
  z46 := Tryz.sizeOf128
  v46 := Tryz.zeroValue128
  t105 := Tryz.underlying243
  a105 := Tryz.isAgg243
  z105 := Tryz.sizeOf243
  v105 := Tryz.zeroValue243
  t116 := Tryz.underlying192
  a116 := Tryz.isAgg192
  z116 := Tryz.sizeOf192
  t117 := Tryz.underlying193
  a117 := Tryz.isAgg193
  z117 := Tryz.sizeOf193
  v117 := Tryz.zeroValue193
  t119 := Tryz.underlying292
  a119 := Tryz.isAgg292
  z119 := Tryz.sizeOf292
  t124 := Tryz.underlying196
  a124 := Tryz.isAgg196
  z124 := Tryz.sizeOf196
  v124 := Tryz.zeroValue196
  t138 := Tryz.underlying294
  a138 := Tryz.isAgg294
  z138 := Tryz.sizeOf294
  v138 := Tryz.zeroValue294
  t139 := Tryz.underlying295
  a139 := Tryz.isAgg295
  z139 := Tryz.sizeOf295
  v139 := Tryz.zeroValue295
  g3 := by kernel_rfl
  g4 := by kernel_rfl }
open Go.RowKit in
/-- strings.TrimRight: "TrimRight returns a slice of the string s, with all trailing Unicode code points contained in cutset removed.": AT A cutset OF ONE ASCII BYTE. The world is as it was. (LAID: no walk: one application.) -/
theorem Tryz.strings_TrimRight_one (s : ByteArray) (c : UInt8) (hc : c.toNat < 128) (w : World) (hs : s.size ≤ 9223372036854775807) :
    Calls Tryz.prog 116 #[.string s, .string ⟨#[c]⟩] w fun e w' => e = .returned (.string ⟨(Lib.trimRightB s.data.toList c).toArray⟩) ∧ w' = w := Any.strings_TrimRight_one Tryz.lays162 s c hc w hs
def Tryz.lays137_ren : Go.Shelf.Ren := ⟨fun | 137 => 137 | 217 => 195 | 266 => 237 | n => n, fun | 9 => 9 | 5 => 5 | 3 => 3 | n => n, fun | n => n⟩
theorem Tryz.lays137 : Go.Proofs.Lays.n137 Tryz.prog Tryz.lays137_ren := {
  mixed := by kernel_rfl
  f137 := Tryz.func137.trans (congrArg some (by kernel_rfl))
  f217 := Tryz.func195.trans (congrArg some (by kernel_rfl))
  f266 := Tryz.func237.trans (congrArg some (by kernel_rfl))
  t3 := Tryz.underlying3
  a3 := Tryz.isAgg3
  z3 := Tryz.sizeOf3
  v3 := Tryz.zeroValue3
  t5 := Tryz.underlying5
  a5 := Tryz.isAgg5
  z5 := Tryz.sizeOf5
  v5 := Tryz.zeroValue5
  t9 := Tryz.underlying9
  a9 := Tryz.isAgg9
  z9 := Tryz.sizeOf9
  v9 := Tryz.zeroValue9 }
open Go.RowKit in
/-- strings.IndexByte: "IndexByte returns the index of the first instance of c in s, or -1 if c is not present in s.": IT RETURNS 'Lib.indexByte s c'; the world is as it was. (LAID: no walk: one application.) -/
theorem Tryz.strings_IndexByte (s : ByteArray) (c : Int) (w : World) :
    Calls Tryz.prog 137 #[.string s, .int .u8 c] w fun e w' => e = .returned (.int .i64 (Lib.indexByte s.data.toList c.toNat.toUInt8)) ∧ w' = w := Any.strings_IndexByte Tryz.lays137 s c w
def Tryz.laysM171_ren : Go.Shelf.Ren := ⟨fun | 171 => 48 | 243 => 115 | 246 => 180 | 283 => 225 | 284 => 226 | 285 => 227 | 286 => 228 | 129 => 266 | 317 => 265 | 318 => 267 | 319 => 268 | 320 => 269 | 337 => 289 | 338 => 290 | n => n, fun | 3 => 3 | 9 => 9 | 2 => 2 | 4 => 4 | 171 => 238 | 0 => 0 | 53 => 27 | 37 => 22 | 5 => 5 | 173 => 241 | 212 => 269 | 51 => 49 | 20 => 20 | 213 => 270 | 46 => 128 | 232 => 302 | 233 => 303 | n => n, fun | 17 => 1 | 18 => 6 | 19 => 7 | n => n⟩
theorem Tryz.laysM171 : Go.Proofs.LaysM.n171 Tryz.prog Tryz.laysM171_ren := {
  mixed := by kernel_rfl
  f129 := Tryz.func266.trans (congrArg some (by kernel_rfl))
  f171 := Tryz.func48.trans (congrArg some (by kernel_rfl))
  f243 := Tryz.func115.trans (congrArg some (by kernel_rfl))
  f246 := Tryz.func180.trans (congrArg some (by kernel_rfl))
  f283 := Tryz.func225.trans (congrArg some (by kernel_rfl))
  f284 := Tryz.func226.trans (congrArg some (by kernel_rfl))
  f285 := Tryz.func227.trans (congrArg some (by kernel_rfl))
  f286 := Tryz.func228.trans (congrArg some (by kernel_rfl))
  f317 := Tryz.func265.trans (congrArg some (by kernel_rfl))
  f318 := Tryz.func267.trans (congrArg some (by kernel_rfl))
  f319 := Tryz.func268.trans (congrArg some (by kernel_rfl))
  f320 := Tryz.func269.trans (congrArg some (by kernel_rfl))
  f337 := Tryz.func289.trans (congrArg some (by kernel_rfl))
  f338 := Tryz.func290.trans (congrArg some (by kernel_rfl))
  t0 := Tryz.underlying0
  a0 := Tryz.isAgg0
  z0 := Tryz.sizeOf0
  v0 := Tryz.zeroValue0
  t2 := Tryz.underlying2
  a2 := Tryz.isAgg2
  z2 := Tryz.sizeOf2
  v2 := Tryz.zeroValue2
  t3 := Tryz.underlying3
  a3 := Tryz.isAgg3
  z3 := Tryz.sizeOf3
  v3 := Tryz.zeroValue3
  t4 := Tryz.underlying4
  a4 := Tryz.isAgg4
  z4 := Tryz.sizeOf4
  v4 := Tryz.zeroValue4
  t5 := Tryz.underlying5
  a5 := Tryz.isAgg5
  z5 := Tryz.sizeOf5
  v5 := Tryz.zeroValue5
  t9 := Tryz.underlying9
  a9 := Tryz.isAgg9
  z9 := Tryz.sizeOf9
  v9 := Tryz.zeroValue9
  t20 := Tryz.underlying20
  a20 := Tryz.isAgg20
  z20 := Tryz.sizeOf20
  v20 := Tryz.zeroValue20
  t37 := Tryz.underlying22
  a37 := Tryz.isAgg22
  z37 := Tryz.sizeOf22
  v37 := Tryz.zeroValue22
  t46 := Tryz.underlying128
  a46 := Tryz.isAgg128
  z46 := Tryz.sizeOf128
  v46 := Tryz.zeroValue128
  t51 := Tryz.underlying49
  a51 := Tryz.isAgg49
  z51 := Tryz.sizeOf49
  v51 := Tryz.zeroValue49
  t53 := Tryz.underlying27
  a53 := Tryz.isAgg27
  z53 := Tryz.sizeOf27
  v53 := Tryz.zeroValue27
  t171 := Tryz.underlying238
  a171 := Tryz.isAgg238
  z171 := Tryz.sizeOf238
  v171 := Tryz.zeroValue238
  t173 := Tryz.underlying241
  a173 := Tryz.isAgg241
  z173 := Tryz.sizeOf241
  v173 := Tryz.zeroValue241
  t212 := Tryz.underlying269
  a212 := Tryz.isAgg269
  z212 := Tryz.sizeOf269
  v212 := Tryz.zeroValue269
  t213 := Tryz.underlying270
  a213 := Tryz.isAgg270
  z213 := Tryz.sizeOf270
  t232 := Tryz.underlying302
  a232 := Tryz.isAgg302
  z232 := Tryz.sizeOf302
  v232 := Tryz.zeroValue302
  t233 := Tryz.underlying303
  a233 := Tryz.isAgg303
  z233 := Tryz.sizeOf303
  v233 := Tryz.zeroValue303
  g17 := by kernel_rfl
  g18 := by kernel_rfl
  g19 := by kernel_rfl
  i0 := by kernel_rfl
  i2 := by kernel_rfl
  i3 := by kernel_rfl
  i4 := by kernel_rfl
  i5 := by kernel_rfl
  i9 := by kernel_rfl
  i20 := by kernel_rfl
  i37 := by kernel_rfl
  i46 := by kernel_rfl
  i51 := by kernel_rfl
  i53 := by kernel_rfl
  i171 := by kernel_rfl
  i173 := by kernel_rfl
  i212 := by kernel_rfl
  i232 := by kernel_rfl
  i233 := by kernel_rfl
  m17 := by kernel_rfl
  m18 := by kernel_rfl
  m19 := by kernel_rfl }
open Go.RowKit Go.Sort Go.Lib in
/-- strconv.Itoa: "Itoa is equivalent to FormatInt(int64(i), 10).": i's DECIMAL NUMERAL ('Lib.itoa': a '-' where i is negative, then the digits), FOR EVERY int. The world behind the call: the world before it, new blocks behind the heap (the library's 'var a [24]byte'), draws. (LAID: no walk: one application.) -/
theorem Tryz.strconv_Itoa (n : Int) (h0 : -9223372036854775808 ≤ n) (h1 : n ≤ 9223372036854775807) (w : World) (htab : Lib.TabIs Tryz.prog w "internal/strconv.uint64pow10" .u64 Lib.pow10Tab) :
    Calls Tryz.prog 48 #[.int .i64 n] w fun e w' => e = .returned (.string ⟨(Lib.itoa n).toArray⟩) ∧ ∃ k os, w' = grow (w.drewN k) os := Any.strconv_Itoa Tryz.laysM171 n h0 h1 w htab
def Tryz.lays144_ren : Go.Shelf.Ren := ⟨fun | 144 => 76 | 143 => 147 | 219 => 201 | 217 => 195 | 225 => 243 | 224 => 244 | 267 => 245 | 266 => 237 | 314 => 278 | n => n, fun | 9 => 9 | 4 => 4 | 3 => 3 | 5 => 5 | 46 => 128 | 146 => 246 | 51 => 49 | n => n, fun | 1 => 0 | n => n⟩
theorem Tryz.lays144 : Go.Proofs.Lays.n144 Tryz.prog Tryz.lays144_ren := {
  mixed := by kernel_rfl
  f143 := Tryz.func147.trans (congrArg some (by kernel_rfl))
  f144 := Tryz.func76.trans (congrArg some (by kernel_rfl))
  f217 := Tryz.func195.trans (congrArg some (by kernel_rfl))
  f219 := Tryz.func201.trans (congrArg some (by kernel_rfl))
  f224 := Tryz.func244.trans (congrArg some (by kernel_rfl))
  f225 := Tryz.func243.trans (congrArg some (by kernel_rfl))
  f266 := Tryz.func237.trans (congrArg some (by kernel_rfl))
  f267 := Tryz.func245.trans (congrArg some (by kernel_rfl))
  f314 := Tryz.func278.trans (congrArg some (by kernel_rfl))
  t3 := Tryz.underlying3
  a3 := Tryz.isAgg3
  z3 := Tryz.sizeOf3
  v3 := Tryz.zeroValue3
  t4 := Tryz.underlying4
  a4 := Tryz.isAgg4
  z4 := Tryz.sizeOf4
  v4 := Tryz.zeroValue4
  t5 := Tryz.underlying5
  a5 := Tryz.isAgg5
  z5 := Tryz.sizeOf5
  v5 := Tryz.zeroValue5
  t9 := Tryz.underlying9
  a9 := Tryz.isAgg9
  z9 := Tryz.sizeOf9
  v9 := Tryz.zeroValue9
  t46 := Tryz.underlying128
  a46 := Tryz.isAgg128
  z46 := Tryz.sizeOf128
  v46 := Tryz.zeroValue128
  t51 := Tryz.underlying49
  a51 := Tryz.isAgg49
  z51 := Tryz.sizeOf49
  v51 := Tryz.zeroValue49
  t146 := Tryz.underlying246
  a146 := Tryz.isAgg246
  z146 := Tryz.sizeOf246
  v146 := Tryz.zeroValue246
  g1 := by kernel_rfl }
open Go.RowKit Go.Lib in
/-- strings.Contains: "Contains reports whether substr is within s.": AT A substr OF ONE BYTE c: IT RETURNS 'decide (0 ≤ Lib.indexByte s c)'; the world is as it was. (LAID: no walk: one application.) -/
theorem Tryz.strings_Contains_one (s : ByteArray) (c : UInt8) (w : World) :
    Calls Tryz.prog 76 #[.string s, .string ⟨#[c]⟩] w fun e w' => e = .returned (.bool (decide (0 ≤ Lib.indexByte s.data.toList c))) ∧ w' = w := Any.strings_Contains_one Tryz.lays144 s c w
def Tryz.laysM146_ren : Go.Shelf.Ren := ⟨fun | 146 => 74 | 221 => 146 | 268 => 199 | 138 => 200 | 143 => 147 | 195 => 240 | 197 => 241 | 218 => 242 | 219 => 201 | 260 => 277 | 217 => 195 | 225 => 243 | 224 => 244 | 267 => 245 | 266 => 237 | 314 => 278 | n => n, fun | 9 => 9 | 31 => 46 | 3 => 3 | 4 => 4 | 0 => 0 | 105 => 243 | 21 => 21 | 5 => 5 | 46 => 128 | 119 => 292 | 139 => 295 | 138 => 294 | 146 => 246 | 51 => 49 | n => n, fun | 1 => 0 | 3 => 2 | 4 => 3 | n => n⟩
theorem Tryz.laysM146 : Go.Proofs.LaysM.n146 Tryz.prog Tryz.laysM146_ren := {
  mixed := by kernel_rfl
  f138 := Tryz.func200.trans (congrArg some (by kernel_rfl))
  f143 := Tryz.func147.trans (congrArg some (by kernel_rfl))
  f146 := Tryz.func74.trans (congrArg some (by kernel_rfl))
  f195 := Tryz.func240.trans (congrArg some (by kernel_rfl))
  f197 := Tryz.func241.trans (congrArg some (by kernel_rfl))
  f217 := Tryz.func195.trans (congrArg some (by kernel_rfl))
  f218 := Tryz.func242.trans (congrArg some (by kernel_rfl))
  f219 := Tryz.func201.trans (congrArg some (by kernel_rfl))
  f221 := Tryz.func146.trans (congrArg some (by kernel_rfl))
  f224 := Tryz.func244.trans (congrArg some (by kernel_rfl))
  f225 := Tryz.func243.trans (congrArg some (by kernel_rfl))
  f260 := Tryz.func277.trans (congrArg some (by kernel_rfl))
  f266 := Tryz.func237.trans (congrArg some (by kernel_rfl))
  f267 := Tryz.func245.trans (congrArg some (by kernel_rfl))
  f268 := Tryz.func199.trans (congrArg some (by kernel_rfl))
  f314 := Tryz.func278.trans (congrArg some (by kernel_rfl))
  t0 := Tryz.underlying0
  a0 := Tryz.isAgg0
  z0 := Tryz.sizeOf0
  v0 := Tryz.zeroValue0
  t3 := Tryz.underlying3
  a3 := Tryz.isAgg3
  z3 := Tryz.sizeOf3
  v3 := Tryz.zeroValue3
  t4 := Tryz.underlying4
  a4 := Tryz.isAgg4
  z4 := Tryz.sizeOf4
  v4 := Tryz.zeroValue4
  t5 := Tryz.underlying5
  a5 := Tryz.isAgg5
  z5 := Tryz.sizeOf5
  v5 := Tryz.zeroValue5
  t9 := Tryz.underlying9
  a9 := Tryz.isAgg9
  z9 := Tryz.sizeOf9
  v9 := Tryz.zeroValue9
  t21 := Tryz.underlying21
  a21 := Tryz.isAgg21
  z21 := Tryz.sizeOf21
  v21 := Tryz.zeroValue21
  t31 := Tryz.underlying46
  a31 := Tryz.isAgg46
  z31 := Tryz.sizeOf46
  v31 := Tryz.zeroValue46
  t46 := Tryz.underlying128
  a46 := Tryz.isAgg128
  z46 := Tryz.sizeOf128
  v46 := Tryz.zeroValue128
  t51 := Tryz.underlying49
  a51 := Tryz.isAgg49
  z51 := Tryz.sizeOf49
  v51 := Tryz.zeroValue49
  t105 := Tryz.underlying243
  a105 := Tryz.isAgg243
  z105 := Tryz.sizeOf243
  v105 := Tryz.zeroValue243
  t119 := Tryz.underlying292
  a119 := Tryz.isAgg292
  z119 := Tryz.sizeOf292
  t138 := Tryz.underlying294
  a138 := Tryz.isAgg294
  z138 := Tryz.sizeOf294
  v138 := Tryz.zeroValue294
  t139 := Tryz.underlying295
  a139 := Tryz.isAgg295
  z139 := Tryz.sizeOf295
  v139 := Tryz.zeroValue295
  t146 := Tryz.underlying246
  a146 := Tryz.isAgg246
  z146 := Tryz.sizeOf246
  v146 := Tryz.zeroValue246
  g1 := by kernel_rfl
  g3 := by kernel_rfl
  g4 := by kernel_rfl
  i0 := by kernel_rfl
  i3 := by kernel_rfl
  i4 := by kernel_rfl
  i5 := by kernel_rfl
  i9 := by kernel_rfl
  i21 := by kernel_rfl
  i31 := by kernel_rfl
  i46 := by kernel_rfl
  i51 := by kernel_rfl
  i105 := by kernel_rfl
  i138 := by kernel_rfl
  i139 := by kernel_rfl
  i146 := by kernel_rfl
  m1 := by kernel_rfl
  s1_3 := fun w h => Go.Proofs.cell_of_shapedOpen_int (zero := #[.int .i64 0]) (t := 3) h (of_decide_eq_true (by kernel_rfl)) (by kernel_rfl) rfl (by kernel_rfl) (by kernel_rfl) Tryz.underlying3
  m3 := by kernel_rfl
  m4 := by kernel_rfl }
open Go.RowKit Go.Lib in
/-- strings.Split, sep not empty. (LAID: no walk: one application.) -/
theorem Tryz.strings_Split_shaped (s sep : ByteArray) (w : World) (h : w.ShapedOpen Tryz.prog) (hs : s.size < 4294967281) (h1 : 1 ≤ sep.size) :
    Calls Tryz.prog 74 #[.string s, .string sep] w fun e w' =>
      e = .returned (.slice (some ⟨w.heap.size, 0, none⟩) (Lib.countB s sep + 1) (Lib.countB s sep + 1)) ∧ w' = w.alloc (.cells ((Lib.splitB sep 0 (Lib.countB s sep) s).map Value.string).toArray 9) := Any.strings_Split_shaped Tryz.laysM146 s sep w h hs h1
def Tryz.lays105_ren : Go.Shelf.Ren := ⟨fun | 105 => 117 | 212 => 185 | 99 => 186 | 165 => 187 | 166 => 123 | 170 => 188 | 169 => 125 | 263 => 232 | 264 => 233 | 206 => 234 | 240 => 189 | 241 => 235 | 276 => 236 | 277 => 271 | n => n, fun | 9 => 9 | 3 => 3 | 4 => 4 | 20 => 20 | 0 => 0 | 46 => 128 | 109 => 197 | 5 => 5 | 72 => 147 | 76 => 150 | 51 => 49 | 146 => 246 | 53 => 27 | 148 => 248 | 70 => 145 | 37 => 22 | 75 => 149 | 127 => 202 | 164 => 250 | 80 => 152 | n => n, fun | n => n⟩
theorem Tryz.lays105 : Go.Proofs.Lays.n105 Tryz.prog Tryz.lays105_ren := {
  mixed := by kernel_rfl
  f99 := Tryz.func186.trans (congrArg some (by kernel_rfl))
  f105 := Tryz.func117.trans (congrArg some (by kernel_rfl))
  f165 := Tryz.func187.trans (congrArg some (by kernel_rfl))
  f166 := Tryz.func123.trans (congrArg some (by kernel_rfl))
  f169 := Tryz.func125.trans (congrArg some (by kernel_rfl))
  f170 := Tryz.func188.trans (congrArg some (by kernel_rfl))
  f206 := Tryz.func234.trans (congrArg some (by kernel_rfl))
  f212 := Tryz.func185.trans (congrArg some (by kernel_rfl))
  f240 := Tryz.func189.trans (congrArg some (by kernel_rfl))
  f241 := Tryz.func235.trans (congrArg some (by kernel_rfl))
  f263 := Tryz.func232.trans (congrArg some (by kernel_rfl))
  f264 := Tryz.func233.trans (congrArg some (by kernel_rfl))
  f276 := Tryz.func236.trans (congrArg some (by kernel_rfl))
  f277 := Tryz.func271.trans (congrArg some (by kernel_rfl))
  t0 := Tryz.underlying0
  a0 := Tryz.isAgg0
  z0 := Tryz.sizeOf0
  v0 := Tryz.zeroValue0
  t3 := Tryz.underlying3
  a3 := Tryz.isAgg3
  z3 := Tryz.sizeOf3
  v3 := Tryz.zeroValue3
  t4 := Tryz.underlying4
  a4 := Tryz.isAgg4
  z4 := Tryz.sizeOf4
  v4 := Tryz.zeroValue4
  t5 := Tryz.underlying5
  a5 := Tryz.isAgg5
  z5 := Tryz.sizeOf5
  v5 := Tryz.zeroValue5
  t9 := Tryz.underlying9
  a9 := Tryz.isAgg9
  z9 := Tryz.sizeOf9
  v9 := Tryz.zeroValue9
  t20 := Tryz.underlying20
  a20 := Tryz.isAgg20
  z20 := Tryz.sizeOf20
  v20 := Tryz.zeroValue20
  t37 := Tryz.underlying22
  a37 := Tryz.isAgg22
  z37 := Tryz.sizeOf22
  v37 := Tryz.zeroValue22
  t46 := Tryz.underlying128
  a46 := Tryz.isAgg128
  z46 := Tryz.sizeOf128
  v46 := Tryz.zeroValue128
  t51 := Tryz.underlying49
  a51 := Tryz.isAgg49
  z51 := Tryz.sizeOf49
  v51 := Tryz.zeroValue49
  t53 := Tryz.underlying27
  a53 := Tryz.isAgg27
  z53 := Tryz.sizeOf27
  v53 := Tryz.zeroValue27
  t70 := Tryz.underlying145
  a70 := Tryz.isAgg145
  z70 := Tryz.sizeOf145
  v70 := Tryz.zeroValue145
  t72 := Tryz.underlying147
  a72 := Tryz.isAgg147
  z72 := Tryz.sizeOf147
  v72 := Tryz.zeroValue147
  t75 := Tryz.underlying149
  a75 := Tryz.isAgg149
  z75 := Tryz.sizeOf149
  v75 := Tryz.zeroValue149
  t76 := Tryz.underlying150
  a76 := Tryz.isAgg150
  z76 := Tryz.sizeOf150
  v76 := Tryz.zeroValue150
  t109 := Tryz.underlying197
  a109 := Tryz.isAgg197
  z109 := Tryz.sizeOf197
  v109 := Tryz.zeroValue197
  t127 := Tryz.underlying202
  a127 := Tryz.isAgg202
  z127 := Tryz.sizeOf202
  v127 := Tryz.zeroValue202
  t146 := Tryz.underlying246
  a146 := Tryz.isAgg246
  z146 := Tryz.sizeOf246
  v146 := Tryz.zeroValue246
  t148 := Tryz.underlying248
  a148 := Tryz.isAgg248
  z148 := Tryz.sizeOf248
  v148 := Tryz.zeroValue248
  t164 := Tryz.underlying250
  a164 := Tryz.isAgg250
  z164 := Tryz.sizeOf250
  v164 := Tryz.zeroValue250 }
theorem Tryz.Builder_Extra_105 : Builder.Extra Tryz.prog Tryz.lays105_ren := {
  sizeBuilder := by kernel_rfl
  liesBuilder := by kernel_rfl
  t5 := Tryz.underlying5
  a5 := Tryz.isAgg5
  z5 := Tryz.sizeOf5
  v5 := Tryz.zeroValue5
  infoByte := by kernel_rfl
  cellsByte := by kernel_rfl
  sizeByte := by kernel_rfl
  neB5 := by decide }
open Go.RowKit Go.Lib in
/-- **strings.Repeat: count ≥ 0, the result within one allocation: count copies of s.** (LAID: no walk: one application.) -/
theorem Tryz.strings_Repeat (s : ByteArray) (c : Nat) (w : World) (hc : c ≤ 9223372036854775807) (hlen : s.size * c ≤ 140737488355328) :
    Calls Tryz.prog 117 #[.string s, .int .i64 c] w fun e w' => e = .returned (.string ⟨(Lib.repeatL s.data.toList c).toArray⟩) ∧ Below w.heap.size w w' := Any.strings_Repeat Tryz.lays105 Tryz.Builder_Extra_105 s c w hc hlen
end Go.Proofs
namespace Go.Proofs.YtbjbnipjeehaoaaGreatDoor
open Go.RowKit Go.Sort Go.Proofs.YtbjbnipjeehaoaaGreatDoorW.PrintWords
theorem gPow : Tryz.prog.globalNamed "internal/strconv.uint64pow10" = some 1 := by kernel_rfl
/-- The library's variables are as they were laid. -/
structure Good (w : World) : Prop where
  shaped : w.ShapedOpen Tryz.prog
  pow : Lib.TabIs Tryz.prog w "internal/strconv.uint64pow10" .u64 Lib.pow10Tab
  tz : w.cell? ⟨7, 7, none⟩ = some (.int .u8 3)
theorem lt_of_cell {w : World} {a : Addr} {v : Value} (h : w.cell? a = some v) : a.block < w.heap.size := World.block_lt_of_cell? w a h
theorem Good.below {w w' : World} (h : Good w) (hb : Below w.heap.size w w') : Good w' :=
  ⟨h.shaped.keptBut (may := fun _ => False) (hb.frame _) (fun _ h => h.elim), Joins.tab_stays gPow h.pow hb (Nat.le_refl _), (hb.cell (lt_of_cell h.tz)).trans h.tz⟩
theorem below_grow (w : World) (k : Nat) (os : Array Obj) : Below w.heap.size w (grow (w.drewN k) os) := by
  refine ⟨rfl, rfl, rfl, by simp [grow], fun i hi => ?_⟩
  show ((w.heap ++ os))[i]? = w.heap[i]?
  rw [Array.getElem?_append_left hi]
theorem itoa_any (n : Int) (w : World) (hG : Good w) (h0 : -9223372036854775808 ≤ n) (h1 : n ≤ 9223372036854775807) :
    Calls Tryz.prog 48 #[.int .i64 n] w fun e w' => e = .returned (.string (mkS (Lib.itoa n))) ∧ Below w.heap.size w w' :=
  (Tryz.strconv_Itoa n h0 h1 w hG.pow).mono fun e w' ⟨he, k, os, hw⟩ => ⟨he, hw ▸ below_grow w k os⟩
theorem split_any (l : List UInt8) (c : UInt8) (w : World) (hG : Good w) (hs : l.length < 4294967281) :
    Calls Tryz.prog 74 #[.string (mkS l), .string ⟨#[c]⟩] w fun e w' =>
      e = .returned (.slice (some ⟨w.heap.size, 0, none⟩) (splitOn c l).length (splitOn c l).length) ∧ w' = w.alloc (.cells (((splitOn c l).map mkS).map Value.string).toArray 9) := by
  have h := Tryz.strings_Split_shaped (mkS l) ⟨#[c]⟩ w hG.shaped (by simpa using hs) (Nat.le_refl 1)
  rw [countB_on, splitB_on] at h
  exact h
end Go.Proofs.YtbjbnipjeehaoaaGreatDoor
namespace Go.Proofs.YtbjbnipjeehaoaaGreatDoor
theorem num_itoa {n : Int} (h : 0 ≤ n) : Lib.itoa n = Lib.decDigits n.toNat := by unfold Lib.itoa; rw [if_neg (by omega)]
theorem nDigits_mono : ∀ (a b : Nat), a ≤ b → Lib.nDigits a ≤ Lib.nDigits b := by
  intro a
  induction a using Nat.strongRecOn with
  | ind a ih =>
    intro b h
    by_cases h1 : a < 10
    · rw [Lib.nDigits_small h1]; exact Lib.nDigits_pos b
    · rw [Lib.nDigits_big h1, Lib.nDigits_big (show ¬ b < 10 by omega)]
      have := ih (a / 10) (by omega) (b / 10) (by omega)
      omega
end Go.Proofs.YtbjbnipjeehaoaaGreatDoor
namespace Go.Proofs.YtbjbnipjeehaoaaGreatDoor.S
def mayT (s n : Int) : Bool := decide (-1099511627776 ≤ s) && decide (s ≤ 1099511627776) && decide (0 ≤ n) && decide (n < 1000000000)
theorem may_iffT {s n : Int} : mayT s n = true ↔ -1099511627776 ≤ s ∧ s ≤ 1099511627776 ∧ 0 ≤ n ∧ n < 1000000000 := by
  unfold mayT
  simp only [Bool.and_eq_true, decide_eq_true_eq, and_assoc]
def wholeT (s n : Int) : Nat := if s < 0 then (if 0 < n then (-s - 1).toNat else (-s).toNat) else s.toNat
def partT (s n : Int) : Nat := if s < 0 then (if 0 < n then (1000000000 - n).toNat else n.toNat) else n.toNat
def signT (s : Int) : List UInt8 := if s < 0 then [45] else []
def fracT (r : Nat) : List UInt8 := Lib.trimRightB (List.replicate (9 - (Lib.decDigits r).length) 48 ++ Lib.decDigits r) 48
def textT (s n : Int) : List UInt8 := signT s ++ Lib.decDigits (wholeT s n) ++ (if partT s n = 0 then [] else 46 :: fracT (partT s n))
def padT (b : List UInt8) : List UInt8 := b ++ List.replicate (9 - b.length) 48
/- Digits. -/
theorem trimRightB_spec (l : List UInt8) (c : UInt8) : ∃ k, l = Lib.trimRightB l c ++ List.replicate k c ∧ (∀ x, (Lib.trimRightB l c).getLast? = some x → x ≠ c) := by
  unfold Lib.trimRightB
  refine ⟨(l.reverse.takeWhile (· == c)).length, ?_, ?_⟩
  · have h1 : l.reverse = l.reverse.takeWhile (· == c) ++ l.reverse.dropWhile (· == c) := (List.takeWhile_append_dropWhile).symm
    have h2 : l.reverse.takeWhile (· == c) = List.replicate (l.reverse.takeWhile (· == c)).length c := by
      refine List.eq_replicate_iff.2 ⟨rfl, fun b hb => ?_⟩
      have h := List.all_takeWhile (p := (· == c)) (l := l.reverse)
      simpa using List.all_eq_true.1 h b hb
    have h3 := congrArg List.reverse h1
    rw [List.reverse_reverse, List.reverse_append] at h3
    conv => lhs; rw [h3]
    congr 1
    conv => lhs; rw [h2]
    rw [List.reverse_replicate]
  · intro x hx
    rw [List.getLast?_reverse] at hx
    have := List.head?_dropWhile_not (p := (· == c)) (l := l.reverse)
    rw [hx] at this
    simpa using this
theorem dec_len9 {r : Nat} (h : r < 1000000000) : (Lib.decDigits r).length ≤ 9 := by
  rw [Lib.decDigits_length]
  have := nDigits_mono r 999999999 (by omega)
  have e : Lib.nDigits 999999999 = 9 := by simp [Lib.nDigits_big, Lib.nDigits_small]
  omega
def padded (r : Nat) : List UInt8 := List.replicate (9 - (Lib.decDigits r).length) 48 ++ Lib.decDigits r
theorem padded_len {r : Nat} (h : r < 1000000000) : (padded r).length = 9 := by
  have := dec_len9 h
  simp [padded]
  omega
/-- A rest's digits, filled up again. -/
theorem pad_frac {r : Nat} (h : r < 1000000000) : padT (fracT r) = padded r ∧ (fracT r).length ≤ 9 := by
  obtain ⟨k, hk, _⟩ := trimRightB_spec (padded r) 48
  have hl := padded_len h
  have e : fracT r = Lib.trimRightB (padded r) 48 := rfl
  have h2 := congrArg List.length hk
  rw [List.length_append, List.length_replicate, hl] at h2
  rw [← e] at hk h2
  refine ⟨?_, by omega⟩
  unfold padT
  rw [show 9 - (fracT r).length = k by omega]
  exact hk.symm
theorem part_lt {s n : Int} (h : mayT s n = true) : partT s n < 1000000000 := by
  obtain ⟨h1, h2, h3, h4⟩ := may_iffT.1 h
  unfold partT
  split <;> try split
  all_goals omega
theorem whole_le {s n : Int} (h : mayT s n = true) : wholeT s n ≤ 1099511627776 := by
  obtain ⟨h1, h2, h3, h4⟩ := may_iffT.1 h
  unfold wholeT
  split <;> try split
  all_goals omega
theorem part_zero {s n : Int} (h : mayT s n = true) : partT s n = 0 ↔ n = 0 := by
  obtain ⟨h1, h2, h3, h4⟩ := may_iffT.1 h
  unfold partT
  split <;> try split
  all_goals omega
end Go.Proofs.YtbjbnipjeehaoaaGreatDoor.S
namespace Go.Proofs.YtbjbnipjeehaoaaGreatDoor
open Go.RowKit Go.Proofs.YtbjbnipjeehaoaaGreatDoorW.PrintWords
/-- strings.Repeat, within the model's bound. -/
def strings_Repeat.f (a0 : ByteArray) (a1 : Int) : Option ByteArray := if 0 ≤ a1 ∧ a0.size * a1.toNat ≤ 140737488355328 ∧ a1 ≤ 9223372036854775807 then some ⟨(Lib.repeatL a0.data.toList a1.toNat).toArray⟩ else none
/-- A block that holds bytes which may be written: what a conversion '[]byte(s)' makes. -/
structure Bytes (W : World) (g : Nat) (l : List UInt8) : Prop where
  cell : ∀ j, j < l.length → W.cell? ⟨g, j, none⟩ = some (.int .u8 (l.getD j 0).toNat)
  free : ∀ j, j < l.length → W.frozen? ⟨g, j, none⟩ = false
  lt : g < W.heap.size
theorem Bytes.below {W W' : World} {g : Nat} {l : List UInt8} {B : Nat} (h : Bytes W g l) (hb : Below B W W') (hg : g < B) : Bytes W' g l :=
  ⟨fun j hj => (hb.cell (p := ⟨g, j, none⟩) hg).trans (h.cell j hj), fun j hj => (hb.frozen (p := ⟨g, j, none⟩) hg).trans (h.free j hj), Nat.lt_of_lt_of_le h.lt hb.size⟩
theorem Bytes.set {W : World} {g : Nat} {l : List UInt8} (h : Bytes W g l) (i : Nat) (hi : i < l.length) (v : UInt8) : Bytes (W.setCell ⟨g, i, none⟩ (.int .u8 v.toNat)) g (l.set i v) := by
  refine ⟨fun j hj => ?_, fun j hj => ?_, by simpa using h.lt⟩
  · rw [List.length_set] at hj
    by_cases hij : i = j
    · subst hij
      rw [World.cell?_setCell_same _ _ _ (h.cell i hi)]
      simp [hi]
    · rw [World.cell?_setCell_other _ _ _ _ (fun h => hij (congrArg Addr.off h)), h.cell j hj]
      simp [hij]
  · rw [List.length_set] at hj
    simpa using h.free j hj
theorem Bytes.back {P : Program} {W : World} {g : Nat} {l : List UInt8} (h : Bytes W g l) (src dst e : TypeId) (cap n : Nat) (hn : n = l.length) (hs : P.underlying src = some (.slice e)) (he : P.underlying e = some (.int .u8)) (hd : P.underlying dst = some .string) :
    (convert src dst (.slice (some ⟨g, 0, none⟩) n cap)).run P W = .ok (.string (mkS l)) W := by
  have := run_convert_bytes_arg (P := P) W src e hs he g 0 l.length cap (l.map fun b => (b.toNat : Int)) (by simp) (fun i hi => by
    rw [Nat.zero_add, h.cell i hi]
    simp [List.getD_eq_getElem?_getD, List.getElem?_eq_getElem hi]) dst hd
  subst hn
  rw [this]
  congr 2
  unfold strOfNums mkS
  rw [List.map_map, show ((fun n : Int => UInt8.ofNat n.toNat) ∘ fun b : UInt8 => (b.toNat : Int)) = id from funext fun b => by simp, List.map_id]
/-- '[]byte(s)' that is written: the world behind it, told by what a walk needs. -/
theorem conv_world {P : Program} (w : World) (src dst e : TypeId) (s : ByteArray) (hs : P.underlying src = some .string) (hd : P.underlying dst = some (.slice e)) (he : P.underlying e = some (.int .u8)) :
    ∃ W cap, (convert src dst (.string s)).run P w = .ok (.slice (some ⟨w.heap.size, 0, none⟩) s.size cap) W ∧ Below w.heap.size w W ∧ W.heap.size = w.heap.size + 1 ∧ Bytes W w.heap.size s.data.toList := by
  refine ⟨_, _, Lib.run_convert_string_bytes w src dst e s hs hd he, ⟨rfl, rfl, rfl, by rw [Lib.bytesWorld_size]; omega, fun i hi => (Lib.bytesWorld_at_old w e s i hi)⟩, Lib.bytesWorld_size w e s, fun j hj => Lib.bytesWorld_cell w e s j (by simpa using hj), fun j hj => ?_, by rw [Lib.bytesWorld_size]; omega⟩
  have hz : j < (Lib.bytesCells w e s).size := by simp [Lib.bytesCells]; simp at hj; omega
  simp only [World.frozen?, Lib.bytesWorld_at_new]
  simp
  omega
end Go.Proofs.YtbjbnipjeehaoaaGreatDoor
namespace Go.Proofs.YtbjbnipjeehaoaaGreatDoor.S
open Go.RowKit Go.Proofs.YtbjbnipjeehaoaaGreatDoorW.PrintWords
theorem str_add {P : Program} {a b c : List UInt8} {s t : ByteArray} (hs : s = mkS a) (ht : t = mkS b) (hc : a ++ b = c) (h : c.length ≤ 9223372036854775807) (W : World) : (Op.stringOp .add s t).run P W = .ok (.string (mkS c)) W := by
  subst hs ht hc
  rw [run_string_add_sum _ _ _ (by simp at h ⊢; exact h), append_mkS]
theorem trimRight_any (l t : List UInt8) (h : Lib.trimRightB l 48 = t) (w : World) (hs : l.length ≤ 1000000) :
    Calls Tryz.prog 116 #[.string (mkS l), .string ⟨#[48]⟩] w fun e w' => e = .returned (.string (mkS t)) ∧ w' = w := by
  have h1 := Tryz.strings_TrimRight_one (mkS l) 48 (by decide) w (by simp; omega)
  rw [data_mkS, h] at h1
  exact h1
theorem repeat_any (c : Nat) (i : Int) (hi : i = c) (w : World) (hc : c ≤ 1000000) :
    Calls Tryz.prog 117 #[.string ⟨#[48]⟩, .int .i64 i] w fun e w' => e = .returned (.string (mkS (List.replicate c 48))) ∧ Below w.heap.size w w' := by
  subst hi
  have h1 := Tryz.strings_Repeat ⟨#[48]⟩ c w (by omega) (by simp [ByteArray.size]; omega)
  have e : Lib.repeatL (⟨#[48]⟩ : ByteArray).data.toList c = List.replicate c 48 := by
    have := Lib.repeatL_replicate 48 1 c
    rw [Nat.mul_one] at this
    exact this
  rw [e] at h1
  exact h1
theorem may_is (s n : Int) (b : Bool) (h : mayT s n = b) (w : World) :
    Calls Tryz.prog 171 #[.agg #[.int .i64 s, .int .i64 n]] w fun e w' => e = .returned (.bool b) ∧ Below w.heap.size w w' := by
  have HB0 := Aside0.mk (below_alloc (Below.refl w.heap.size w) (.cells #[.int .i64 s, .int .i64 n] 24))
  have H := Aside0.mk h
  clear h
  by_cases h1 : -1099511627776 ≤ s
  · by_cases h2 : s ≤ 1099511627776
    · by_cases h3 : 0 ≤ n
      · by_cases h4 : n < 1000000000
        · go_enter Tryz.func171, Tryz.ntmps171
          go_wp2_with fail
          go_ret
          exact ⟨by rw [← H.out, may_iffT.2 ⟨h1, h2, h3, h4⟩]; rfl, HB0.out⟩
        · have h4' : 1000000000 ≤ n := by omega
          have HF := Aside0.mk (show mayT s n = false from Bool.eq_false_iff.2 fun e => h4 (may_iffT.1 e).2.2.2)
          go_enter Tryz.func171, Tryz.ntmps171
          go_wp2_with fail
          go_ret
          exact ⟨by rw [← H.out, HF.out]; rfl, HB0.out⟩
      · have h3' : n < 0 := by omega
        have HF := Aside0.mk (show mayT s n = false from Bool.eq_false_iff.2 fun e => h3 (may_iffT.1 e).2.2.1)
        go_enter Tryz.func171, Tryz.ntmps171
        go_wp2_with fail
        go_ret
        exact ⟨by rw [← H.out, HF.out]; rfl, HB0.out⟩
    · have h2' : 1099511627776 < s := by omega
      have HF := Aside0.mk (show mayT s n = false from Bool.eq_false_iff.2 fun e => h2 (may_iffT.1 e).2.1)
      go_enter Tryz.func171, Tryz.ntmps171
      go_wp2_with fail
      go_ret
      exact ⟨by rw [← H.out, HF.out]; rfl, HB0.out⟩
  · have h1' : s < -1099511627776 := by omega
    have HF := Aside0.mk (show mayT s n = false from Bool.eq_false_iff.2 fun e => h1 (may_iffT.1 e).1)
    go_enter Tryz.func171, Tryz.ntmps171
    go_wp2_with fail
    go_ret
    exact ⟨by rw [← H.out, HF.out]; rfl, HB0.out⟩
set_option maxHeartbeats 1000000 in
set_option maxRecDepth 100000 in
theorem text_any (s n : Int) (w : World) (hG : Good w) (hm : mayT s n = true) :
    Calls Tryz.prog 50 #[.agg #[.int .i64 s, .int .i64 n]] w fun e w' => e = .returned (.string (mkS (textT s n))) ∧ Below w.heap.size w w' := by
  have hw := whole_le hm
  have hp := part_lt hm
  have hz := part_zero hm
  have hpad := padded_len hp
  obtain ⟨q1, q2, q3, q4⟩ := may_iffT.1 hm
  have ht : textT s n = (signT s ++ Lib.decDigits (wholeT s n)) ++ (if partT s n = 0 then [] else 46 :: fracT (partT s n)) := rfl
  have hdl := Lib.decDigits_length (wholeT s n)
  have hd20 := Lib.nDigits_le20 (wholeT s n) (by omega)
  have hrl := dec_len9 hp
  have hfl := (pad_frac hp).2
  obtain ⟨W, hW⟩ : ∃ W, wholeT s n = W := ⟨_, rfl⟩
  obtain ⟨R, hR⟩ : ∃ R, partT s n = R := ⟨_, rfl⟩
  obtain ⟨ds, hds⟩ : ∃ ds, Lib.decDigits W = ds := ⟨_, rfl⟩
  obtain ⟨rs, hrs⟩ : ∃ rs, Lib.decDigits R = rs := ⟨_, rfl⟩
  have hFd : fracT R = Lib.trimRightB (List.replicate (9 - rs.length) 48 ++ rs) 48 := by unfold fracT; rw [hrs]
  rw [hW, hR, hds] at ht
  rw [hW, hds] at hdl
  rw [hW] at hw hd20
  rw [hR] at hp hz hrl hfl
  rw [hrs] at hrl
  obtain ⟨fs, hfs⟩ : ∃ fs, fracT R = fs := ⟨_, rfl⟩
  rw [hfs] at ht hFd hfl
  have HWI := Aside0.mk (show ∀ i : Int, i = W → Lib.itoa i = ds from fun i hi => by rw [hi, num_itoa (by omega), Int.toNat_natCast, hds])
  have HRI := Aside0.mk (show ∀ i : Int, i = R → Lib.itoa i = rs from fun i hi => by rw [hi, num_itoa (by omega), Int.toNat_natCast, hrs])
  have hdl2 : ds.length ≤ 20 := by omega
  have hrl' : (rs.length : Int) ≤ 9 := by omega
  have hsub : (9 : Int) - (rs.length : Int) = ((9 - rs.length : Nat) : Int) := by omega
  obtain ⟨zs, hzs⟩ : ∃ zs, List.replicate (9 - rs.length) (48 : UInt8) = zs := ⟨_, rfl⟩
  have hzl : zs.length = 9 - rs.length := by rw [← hzs]; simp
  rw [hzs] at hFd
  obtain ⟨ps, hps⟩ : ∃ ps, zs ++ rs = ps := ⟨_, rfl⟩
  rw [hps] at hFd
  have hpl : ps.length = 9 := by rw [← hps]; simp; omega
  have a3 := fun W => str_add (P := Tryz.prog) (s := mkS zs) (t := mkS rs) (a := zs) (b := rs) rfl rfl hps (by omega) W
  have HZ := Aside0.mk hzs
  have HF := Aside0.mk hFd.symm
  have HG := Aside0.mk hG
  clear hG hds hrs hfs hFd hzs hps hdl hd20 hm hpad
  by_cases hs : s < 0
  · have e1 : signT s = [45] := by unfold signT; rw [if_pos hs]
    obtain ⟨xs, hxs⟩ : ∃ xs, [45] ++ ds = xs := ⟨_, rfl⟩
    rw [e1, hxs] at ht
    have hxl : xs.length = ds.length + 1 := by rw [← hxs]; simp
    have a1 := fun W => str_add (P := Tryz.prog) (s := ⟨#[45]⟩) (t := mkS ds) (a := [45]) (b := ds) rfl rfl hxs (by omega) W
    clear e1 hxs
    by_cases hn : n = 0
    · obtain rfl : R = 0 := by omega
      obtain rfl : s = -(W : Int) := by unfold wholeT at hW; rw [if_pos hs, if_neg (by omega)] at hW; omega
      subst hn
      rw [if_pos rfl, List.append_nil] at ht
      have HT := Aside0.mk ht
      clear ht hW hR
      have hwn : IntKind.i64.wrap (-(-(W : Int))) = (W : Int) := by rw [IntKind.wrap_i64]; omega
      go_enter Tryz.func50, Tryz.ntmps50
      go_wp2_with fail
      go_region_law fail
      have HB0 := Aside0.mk (below_drew (below_alloc (Below.refl w.heap.size w) (.cells #[.int .i64 (W : Int), .int .i64 0] 24)))
      have g0 := blk_drew (heap_alloc_new w (.cells #[.int .i64 (W : Int), .int .i64 0] 24))
      go_wp2_with (go_at_call 48; refine (itoa_any _ _ (HG.out.below HB0.out) (by omega) (by omega)).mono ?_; rintro e w1 ⟨rfl, hb1⟩; rw [HWI.out _ rfl]; have g1 := (hb1.block _ (blk_lt g0)).trans g0; have c0 := blk_cell g1 0; have c1 := blk_cell g1 1)
      go_ret
      exact ⟨by rw [HT.out]; rfl, below_next HB0.out hb1⟩
    · have hR0 : ¬ R = 0 := by omega
      rw [if_neg hR0] at ht
      have hn0 : 0 < n := by omega
      obtain ⟨V, hV⟩ : ∃ V : Nat, s = -(V : Int) := ⟨(-s).toNat, by omega⟩
      have hVW : (V : Int) - 1 = (W : Int) := by unfold wholeT at hW; rw [if_pos hs, if_pos hn0] at hW; omega
      have hnr : 1000000000 - n = (R : Int) := by unfold partT at hR; rw [if_pos hs, if_pos hn0] at hR; omega
      subst hV
      have hwV : IntKind.i64.wrap (V : Int) = (V : Int) := by rw [IntKind.wrap_i64]; omega
      have hwW : IntKind.i64.wrap (W : Int) = (W : Int) := by rw [IntKind.wrap_i64]; omega
      have hwR : IntKind.i64.wrap (R : Int) = (R : Int) := by rw [IntKind.wrap_i64]; omega
      obtain ⟨y1, hy1⟩ : ∃ y1, xs ++ [46] = y1 := ⟨_, rfl⟩
      have hy1l : y1.length = xs.length + 1 := by rw [← hy1]; simp
      obtain ⟨y2, hy2⟩ : ∃ y2, y1 ++ fs = y2 := ⟨_, rfl⟩
      have hy2l : y2.length = y1.length + fs.length := by rw [← hy2]; simp
      have a2 := fun W => str_add (P := Tryz.prog) (s := mkS xs) (t := ⟨#[46]⟩) (a := xs) (b := [46]) rfl rfl hy1 (by omega) W
      have a4 := fun W => str_add (P := Tryz.prog) (s := mkS y1) (t := mkS fs) (a := y1) (b := fs) rfl rfl hy2 (by omega) W
      have HT := Aside0.mk (show textT _ _ = y2 by rw [ht, ← hy2, ← hy1]; simp)
      have hRi : ((R : Int) == 0) = false := by simp; omega
      have HSUB := Aside0.mk hsub
      clear ht hz hW hR hy1 hy2 hsub hn hR0
      go_enter Tryz.func50, Tryz.ntmps50
      go_wp2_with fail
      go_region_law fail
      have HB0 := Aside0.mk (below_drew (below_alloc (Below.refl w.heap.size w) (.cells #[.int .i64 (W : Int), .int .i64 (R : Int)] 24)))
      have g0 := blk_drew (heap_alloc_new w (.cells #[.int .i64 (W : Int), .int .i64 (R : Int)] 24))
      go_wp2_with (first
        | (go_at_call 48; refine (itoa_any _ _ (HG.out.below HB1.out) (by omega) (by omega)).mono ?_; rintro e w2 ⟨rfl, hb2⟩; rw [HRI.out _ rfl]; have HB2 := Aside0.mk (below_next HB1.out hb2))
        | (go_at_call 48; refine (itoa_any _ _ (HG.out.below HB0.out) (by omega) (by omega)).mono ?_; rintro e w1 ⟨rfl, hb1⟩; rw [HWI.out _ rfl]; have g1 := (hb1.block _ (blk_lt g0)).trans g0; have c0 := blk_cell g1 0; have c1 := blk_cell g1 1; have HB1 := Aside0.mk (below_next HB0.out hb1))
        | (go_at_call 117; refine (repeat_any (9 - rs.length) _ HSUB.out _ (by omega)).mono ?_; rintro e w3 ⟨rfl, hb3⟩; rw [HZ.out]; have HB3 := Aside0.mk (below_next HB2.out hb3))
        | (go_at_call 116; refine (trimRight_any ps fs HF.out _ (by omega)).mono ?_; rintro e w4 ⟨rfl, rfl⟩))
      go_ret
      exact ⟨by rw [HT.out]; rfl, HB3.out⟩
  · have e1 : signT s = [] := by unfold signT; rw [if_neg hs]
    rw [e1, List.nil_append] at ht
    have a1 := fun W => str_add (P := Tryz.prog) (s := ⟨#[]⟩) (t := mkS ds) (a := []) (b := ds) (c := ds) rfl rfl rfl (by omega) W
    clear e1
    obtain rfl : s = (W : Int) := by unfold wholeT at hW; rw [if_neg hs] at hW; omega
    by_cases hn : n = 0
    · subst hn
      obtain rfl : R = 0 := by omega
      rw [if_pos rfl, List.append_nil] at ht
      have HT := Aside0.mk ht
      have HB0 := Aside0.mk (below_alloc (Below.refl w.heap.size w) (.cells #[.int .i64 (W : Int), .int .i64 0] 24))
      have g0 := heap_alloc_new w (.cells #[.int .i64 (W : Int), .int .i64 0] 24)
      clear ht hz hW hR
      go_enter Tryz.func50, Tryz.ntmps50
      go_wp2_with (go_at_call 48; refine (itoa_any _ _ (HG.out.below HB0.out) (by omega) (by omega)).mono ?_; rintro e w1 ⟨rfl, hb1⟩; rw [HWI.out _ rfl]; have g1 := (hb1.block _ (blk_lt g0)).trans g0; have c0 := blk_cell g1 0; have c1 := blk_cell g1 1)
      go_ret
      exact ⟨by rw [HT.out]; rfl, below_next HB0.out hb1⟩
    · have hR0 : ¬ R = 0 := by omega
      rw [if_neg hR0] at ht
      obtain rfl : n = (R : Int) := by unfold partT at hR; rw [if_neg hs] at hR; omega
      obtain ⟨y1, hy1⟩ : ∃ y1, ds ++ [46] = y1 := ⟨_, rfl⟩
      have hy1l : y1.length = ds.length + 1 := by rw [← hy1]; simp
      obtain ⟨y2, hy2⟩ : ∃ y2, y1 ++ fs = y2 := ⟨_, rfl⟩
      have hy2l : y2.length = y1.length + fs.length := by rw [← hy2]; simp
      have a2 := fun W => str_add (P := Tryz.prog) (s := mkS ds) (t := ⟨#[46]⟩) (a := ds) (b := [46]) rfl rfl hy1 (by omega) W
      have a4 := fun W => str_add (P := Tryz.prog) (s := mkS y1) (t := mkS fs) (a := y1) (b := fs) rfl rfl hy2 (by omega) W
      have HT := Aside0.mk (show textT _ _ = y2 by rw [ht, ← hy2, ← hy1]; simp)
      have HB0 := Aside0.mk (below_alloc (Below.refl w.heap.size w) (.cells #[.int .i64 (W : Int), .int .i64 (R : Int)] 24))
      have g0 := heap_alloc_new w (.cells #[.int .i64 (W : Int), .int .i64 (R : Int)] 24)
      have hRi : ((R : Int) == 0) = false := by simp; omega
      have HSUB := Aside0.mk hsub
      clear ht hz hW hR hy1 hy2 hsub
      go_enter Tryz.func50, Tryz.ntmps50
      go_wp2_with (first
        | (go_at_call 48; refine (itoa_any _ _ (HG.out.below HB1.out) (by omega) (by omega)).mono ?_; rintro e w2 ⟨rfl, hb2⟩; rw [HRI.out _ rfl]; have HB2 := Aside0.mk (below_next HB1.out hb2))
        | (go_at_call 48; refine (itoa_any _ _ (HG.out.below HB0.out) (by omega) (by omega)).mono ?_; rintro e w1 ⟨rfl, hb1⟩; rw [HWI.out _ rfl]; have g1 := (hb1.block _ (blk_lt g0)).trans g0; have c0 := blk_cell g1 0; have c1 := blk_cell g1 1; have HB1 := Aside0.mk (below_next HB0.out hb1))
        | (go_at_call 117; refine (repeat_any (9 - rs.length) _ HSUB.out _ (by omega)).mono ?_; rintro e w3 ⟨rfl, hb3⟩; rw [HZ.out]; have HB3 := Aside0.mk (below_next HB2.out hb3))
        | (go_at_call 116; refine (trimRight_any ps fs HF.out _ (by omega)).mono ?_; rintro e w4 ⟨rfl, rfl⟩))
      go_ret
      exact ⟨by rw [HT.out]; rfl, HB3.out⟩
end Go.Proofs.YtbjbnipjeehaoaaGreatDoor.S
namespace Go.Proofs.YtbjbnipjeehaoaaGreatDoor
open Go.RowKit Go.Proofs.YtbjbnipjeehaoaaGreatDoorW.PrintWords
def flagNames : Array Value := #[.string ⟨#[117, 99, 104, 103]⟩, .string ⟨#[117, 97, 112, 112, 110, 100]⟩, .string ⟨#[110, 111, 100, 117, 109, 112]⟩, .string ⟨#[111, 112, 97, 113, 117, 101]⟩]
theorem fnames_any (w : World) : Calls Tryz.prog 122 #[] w fun e w' => e = .returned (.slice (some ⟨w.heap.size, 0, none⟩) 4 4) ∧ w' = w.alloc (.cells flagNames 9) := by
  go_enter Tryz.func122, Tryz.ntmps122
  go_wp2_with fail
  go_ret
  exact ⟨rfl, rfl⟩
theorem flagsMay_any (n : Int) (w : World) : Calls Tryz.prog 121 #[.int .i64 n] w fun e w' => e = .returned (.bool (decide (0 ≤ n) && decide (n < 16))) ∧ Below w.heap.size w w' := by
  by_cases h0 : 0 ≤ n
  · by_cases h1 : n < 16
    · rw [decide_eq_true h0, decide_eq_true h1]
      go_enter Tryz.func121, Tryz.ntmps121
      go_wp2_with fail
      refine (fnames_any _).mono ?_
      rintro e w1 ⟨rfl, rfl⟩
      go_wp2_with fail
      go_ret
      exact ⟨rfl, below_alloc (Below.refl _ _) _⟩
    · rw [decide_eq_true h0, decide_eq_false h1]
      go_enter Tryz.func121, Tryz.ntmps121
      go_wp2_with fail
      refine (fnames_any _).mono ?_
      rintro e w1 ⟨rfl, rfl⟩
      go_wp2_with fail
      go_ret
      exact ⟨by simp [h1], below_alloc (Below.refl _ _) _⟩
  · rw [decide_eq_false h0]
    go_enter Tryz.func121, Tryz.ntmps121
    go_wp2_with fail
    go_ret
    exact ⟨rfl, Below.refl _ _⟩
theorem xattrMay_nil (w : World) : Calls Tryz.prog 128 #[.slice none 0 0] w fun e w' => e = .returned (.bool true) ∧ Below w.heap.size w w' := by
  go_enter Tryz.func128, Tryz.ntmps128
  go_wp2_with fail
  go_loopw [7] (fun v wr => v = .int .i64 0 ∧ Aside0 (Below w.heap.size w wr)) (fun _ _ => 0)
  case atStart => exact ⟨rfl, ⟨Below.refl _ _⟩⟩
  case round =>
    obtain ⟨rfl, HB⟩ := hrel
    go_wp2_with fail
    go_ret
    exact ⟨rfl, HB.out⟩
def capsZ : Value := .agg #[.int .i64 0, .int .u64 0, .int .u64 0, .bool false, .int .i64 0]
theorem capsMay_zero (w : World) : Calls Tryz.prog 126 #[capsZ] w fun e w' => e = .returned (.bool true) ∧ Below w.heap.size w w' := by
  unfold capsZ
  go_enter Tryz.func126, Tryz.ntmps126
  go_wp2_with fail
  go_ret
  exact ⟨rfl, below_alloc (Below.refl _ _) _⟩
theorem capsPut_zero (w : World) : Calls Tryz.prog 54 #[capsZ] w fun e w' => e = .returned (.string ⟨#[]⟩) ∧ Below w.heap.size w w' := by
  unfold capsZ
  go_enter Tryz.func54, Tryz.ntmps54
  go_wp2_with fail
  go_ret
  exact ⟨rfl, below_alloc (Below.refl _ _) _⟩
end Go.Proofs.YtbjbnipjeehaoaaGreatDoor
namespace Go.Proofs.YtbjbnipjeehaoaaGreatDoor.H
/- Digits by eights. -/
def octD : Nat → Nat → List UInt8
  | 0, _ => []
  | k + 1, n => octD k (n / 8) ++ [UInt8.ofNat (48 + n % 8)]
theorem octD_length : ∀ k n, (octD k n).length = k
  | 0, _ => rfl
  | k + 1, n => by rw [octD, List.length_append, octD_length]; rfl
theorem octD_cons : ∀ k n, octD (k + 1) n = UInt8.ofNat (48 + n / 8 ^ k % 8) :: octD k n
  | 0, n => by simp [octD]
  | k + 1, n => by
    rw [octD, octD_cons k (n / 8), octD, Nat.div_div_eq_div_mul, Nat.mul_comm 8, ← Nat.pow_succ]
    rfl
def octL (w n : Nat) : List UInt8 := octD (w - 1) n ++ [0]
theorem octL_length (w n : Nat) (h : 0 < w) : (octL w n).length = w := by
  unfold octL; rw [List.length_append, octD_length]; simp; omega
/- Bytes, the lowest first. -/
def leD : Nat → Int → List UInt8
  | 0, _ => []
  | k + 1, n => UInt8.ofNat (n % 256).toNat :: leD k (n / 256)
theorem leD_length : ∀ k n, (leD k n).length = k
  | 0, _ => rfl
  | k + 1, n => by rw [leD, List.length_cons, leD_length]
theorem leD_snoc : ∀ k n, leD (k + 1) n = leD k n ++ [UInt8.ofNat (n / 256 ^ k % 256).toNat]
  | 0, n => by simp [leD]
  | k + 1, n => by
    rw [leD, leD_snoc k (n / 256), leD, Int.ediv_ediv_of_nonneg (by decide), Int.pow_succ, Int.mul_comm 256]
    rfl
def signB (n : Int) : UInt8 := if n < 0 then 255 else 128
def baseL (w : Nat) (n : Int) : List UInt8 := signB n :: (leD (w - 1) n).reverse
theorem baseL_length (w : Nat) (n : Int) (h : 0 < w) : (baseL w n).length = w := by
  unfold baseL; rw [List.length_cons, List.length_reverse, leD_length]; omega
def baseOk (w : Nat) (n : Int) : Bool := w == 12 || (decide (-72057594037927936 ≤ n) && decide (n < 72057594037927936))
def octOk (w : Nat) (n : Int) : Bool := decide (0 ≤ n) && decide (n < ((8 ^ (w - 1) : Nat) : Int))
/-- A number's field. -/
def fieldT (n : Int) (w : Nat) : Option (List UInt8) := if octOk w n then some (octL w n.toNat) else if baseOk w n then some (baseL w n) else none
theorem field_length {n : Int} {w : Nat} {l : List UInt8} (h : fieldT n w = some l) (hw : 0 < w) : l.length = w := by
  unfold fieldT at h
  split at h
  · injection h with h; rw [← h, octL_length _ _ hw]
  · split at h
    · injection h with h; rw [← h, baseL_length _ _ hw]
    · cases h
/- Read again. -/
theorem octOk_iff (w : Nat) (n : Int) : octOk w n = true ↔ 0 ≤ n ∧ n < ((8 ^ (w - 1) : Nat) : Int) := by simp [octOk]
end Go.Proofs.YtbjbnipjeehaoaaGreatDoor.H
namespace Go.Proofs.YtbjbnipjeehaoaaGreatDoor.H
/-- A header. -/
structure Hd where
  name : List UInt8
  mode : Int
  uid : Int
  gid : Int
  size : Int
  mtime : Int
  typ : UInt8
  link : List UInt8
  uname : List UInt8
  gname : List UInt8
  major : Int
  minor : Int
  pre : List UInt8
deriving DecidableEq
def hd0 : Hd := ⟨[], 0, 0, 0, 0, 0, 0, [], [], [], 0, 0, []⟩
def textOk (l : List UInt8) (n : Nat) : Bool := decide (l.length ≤ n) && !l.contains 0
def numOk (n : Int) : Bool := (fieldT n 8).isSome && decide (0 ≤ n)
def mayH (h : Hd) : Bool :=
  textOk h.name 100 && textOk h.link 100 && textOk h.uname 32 && textOk h.gname 32 && textOk h.pre 155 &&
  (numOk h.mode && numOk h.uid && numOk h.gid && numOk h.major && numOk h.minor) && ((fieldT h.size 12).isSome && (fieldT h.mtime 12).isSome && decide (0 ≤ h.size))
def fill (l : List UInt8) (n : Nat) : List UInt8 := l ++ List.replicate (n - l.length) 0
def fld (n : Int) (w : Nat) : List UInt8 := (fieldT n w).getD []
def magicL : List UInt8 := [117, 115, 116, 97, 114, 0, 48, 48]
def blockA (h : Hd) : List UInt8 := fill h.name 100 ++ fld h.mode 8 ++ fld h.uid 8 ++ fld h.gid 8 ++ fld h.size 12 ++ fld h.mtime 12
def blockB (h : Hd) : List UInt8 := [h.typ] ++ fill h.link 100 ++ magicL ++ fill h.uname 32 ++ fill h.gname 32 ++ fld h.major 8 ++ fld h.minor 8 ++ fill h.pre 155 ++ List.replicate 12 0
def sumOf (l : List UInt8) : Nat := l.foldl (fun a c => a + c.toNat) 0
def sumT (n : Nat) : List UInt8 := octD 6 n ++ [0, 32]
def sumN (a b : List UInt8) : Nat := 256 + sumOf a + sumOf b
def blockT (h : Hd) : List UInt8 := blockA h ++ sumT (sumN (blockA h) (blockB h)) ++ blockB h
def putT (h : Hd) : List UInt8 := if mayH h then blockT h else []
/- Lengths. -/
theorem fill_length (l : List UInt8) (n : Nat) (h : l.length ≤ n) : (fill l n).length = n := by unfold fill; simp; omega
theorem textOk_le {l : List UInt8} {n : Nat} (h : textOk l n = true) : l.length ≤ n ∧ ∀ c ∈ l, c ≠ 0 := by
  unfold textOk at h
  simp only [Bool.and_eq_true, decide_eq_true_eq, Bool.not_eq_true', List.contains_eq_mem, decide_eq_false_iff_not] at h
  exact ⟨h.1, fun c hc e => h.2 (e ▸ hc)⟩
theorem fld_length {n : Int} {w : Nat} (h : (fieldT n w).isSome = true) (hw : 0 < w) : (fld n w).length = w := by
  obtain ⟨l, hl⟩ := Option.isSome_iff_exists.1 h
  unfold fld
  rw [hl]
  exact field_length hl hw
structure MayH (h : Hd) : Prop where
  name : textOk h.name 100 = true
  link : textOk h.link 100 = true
  uname : textOk h.uname 32 = true
  gname : textOk h.gname 32 = true
  pre : textOk h.pre 155 = true
  mode : (fieldT h.mode 8).isSome = true ∧ 0 ≤ h.mode
  uid : (fieldT h.uid 8).isSome = true ∧ 0 ≤ h.uid
  gid : (fieldT h.gid 8).isSome = true ∧ 0 ≤ h.gid
  major : (fieldT h.major 8).isSome = true ∧ 0 ≤ h.major
  minor : (fieldT h.minor 8).isSome = true ∧ 0 ≤ h.minor
  size : (fieldT h.size 12).isSome = true ∧ 0 ≤ h.size
  mtime : (fieldT h.mtime 12).isSome = true
theorem mayH_iff (h : Hd) : mayH h = true ↔ MayH h := by
  unfold mayH numOk
  simp only [Bool.and_eq_true, decide_eq_true_eq]
  constructor
  · rintro ⟨⟨⟨⟨⟨⟨h1, h2⟩, h3⟩, h4⟩, h5⟩, ⟨⟨⟨⟨h6, h7⟩, h8⟩, h9⟩, h10⟩⟩, ⟨⟨h11, h12⟩, h13⟩⟩
    exact ⟨h1, h2, h3, h4, h5, h6, h7, h8, h9, h10, ⟨h11, h13⟩, h12⟩
  · rintro ⟨h1, h2, h3, h4, h5, h6, h7, h8, h9, h10, ⟨h11, h13⟩, h12⟩
    exact ⟨⟨⟨⟨⟨⟨h1, h2⟩, h3⟩, h4⟩, h5⟩, ⟨⟨⟨⟨h6, h7⟩, h8⟩, h9⟩, h10⟩⟩, ⟨⟨h11, h12⟩, h13⟩⟩
theorem blockA_length {h : Hd} (m : MayH h) : (blockA h).length = 148 := by
  unfold blockA
  simp only [List.length_append, fill_length _ _ (textOk_le m.name).1, fld_length m.mode.1 (by decide), fld_length m.uid.1 (by decide), fld_length m.gid.1 (by decide), fld_length m.size.1 (by decide), fld_length m.mtime (by decide)]
theorem blockB_length {h : Hd} (m : MayH h) : (blockB h).length = 356 := by
  unfold blockB magicL
  simp only [List.length_append, fill_length _ _ (textOk_le m.link).1, fill_length _ _ (textOk_le m.uname).1, fill_length _ _ (textOk_le m.gname).1, fill_length _ _ (textOk_le m.pre).1, fld_length m.major.1 (by decide), fld_length m.minor.1 (by decide), List.length_replicate, List.length_cons, List.length_nil]
theorem sumT_length (n : Nat) : (sumT n).length = 8 := by unfold sumT; rw [List.length_append, octD_length]; rfl
theorem blockT_length {h : Hd} (m : MayH h) : (blockT h).length = 512 := by
  unfold blockT
  rw [List.length_append, List.length_append, blockA_length m, blockB_length m, sumT_length]
/- What stands ahead of the first byte 0. -/
/- The block's pieces. -/
/-- Numbers that the machine has. -/
structure Ints (h : Hd) : Prop where
  mode : -9223372036854775808 ≤ h.mode ∧ h.mode ≤ 9223372036854775807
  uid : -9223372036854775808 ≤ h.uid ∧ h.uid ≤ 9223372036854775807
  gid : -9223372036854775808 ≤ h.gid ∧ h.gid ≤ 9223372036854775807
  size : -9223372036854775808 ≤ h.size ∧ h.size ≤ 9223372036854775807
  mtime : -9223372036854775808 ≤ h.mtime ∧ h.mtime ≤ 9223372036854775807
  major : -9223372036854775808 ≤ h.major ∧ h.major ≤ 9223372036854775807
  minor : -9223372036854775808 ≤ h.minor ∧ h.minor ≤ 9223372036854775807
/- A byte turned. -/
theorem sumOf_cons (c : UInt8) (l : List UInt8) : sumOf (c :: l) = c.toNat + sumOf l := by
  have h : ∀ (l : List UInt8) (a : Nat), l.foldl (fun a c => a + c.toNat) a = a + l.foldl (fun a c => a + c.toNat) 0 := by
    intro l
    induction l with
    | nil => intro a; rfl
    | cons x l ih => intro a; rw [List.foldl_cons, ih, List.foldl_cons, ih (0 + x.toNat)]; omega
  unfold sumOf
  rw [List.foldl_cons, h]
  omega
theorem sumOf_append (a b : List UInt8) : sumOf (a ++ b) = sumOf a + sumOf b := by
  induction a with
  | nil => simp [sumOf]
  | cons c a ih => rw [List.cons_append, sumOf_cons, sumOf_cons, ih]; omega
theorem sumOf_le (l : List UInt8) : sumOf l ≤ 255 * l.length := by
  induction l with
  | nil => simp [sumOf]
  | cons c l ih => rw [sumOf_cons, List.length_cons]; have := c.toNat_lt; omega
/- As the reference reckons it. -/
/- What Put gives. -/
theorem put_of {h : Hd} (m : MayH h) : putT h = blockT h := by unfold putT; rw [if_pos ((mayH_iff h).2 m)]
theorem put_none {h : Hd} (m : mayH h = false) : putT h = [] := by unfold putT; rw [m]; rfl
end Go.Proofs.YtbjbnipjeehaoaaGreatDoor.H
namespace Go.Proofs.YtbjbnipjeehaoaaGreatDoor.H
open Go.RowKit Go.Proofs.YtbjbnipjeehaoaaGreatDoorW.PrintWords
theorem info_byte : (Tryz.prog.info? 5).map (fun i => (i.zero, i.size, i.bytes)) = some (some (.int .u8 0), 1, 1) := by kernel_rfl
end Go.Proofs.YtbjbnipjeehaoaaGreatDoor.H
namespace Go.Proofs.YtbjbnipjeehaoaaGreatDoor.H
open Go.RowKit Go.Proofs.YtbjbnipjeehaoaaGreatDoorW.PrintWords
/-- The chain of num's own panic. -/
def noFieldC : List PanicEntry := Chain 288 (.agg #[.int .i64 4])
theorem must_true (w : World) : Calls Tryz.prog 292 #[.bool true] w fun e w' => e = .returned (.tuple #[]) ∧ w' = w := by
  go_enter Tryz.func292, Tryz.ntmps292
  go_wp2
  go_end0
  exact ⟨rfl, rfl⟩
theorem must_false (w : World) : Calls Tryz.prog 292 #[.bool false] w fun e w' => e = .panicked noFieldC ∧ w' = w := by
  go_enter Tryz.func292, Tryz.ntmps292
  go_wp2
  exact ⟨rfl, rfl, rfl⟩
theorem wide_any (width : Int) (w : World) : Calls Tryz.prog 293 #[.int .i64 width] w fun e w' => e = .returned (.bool (width == 8 || width == 12)) ∧ w' = w := by
  by_cases h : width = 8
  · subst h
    go_enter Tryz.func293, Tryz.ntmps293
    go_wp2
    go_ret
    exact ⟨rfl, rfl⟩
  · have h2 : (width == 8) = false := by simpa using h
    go_enter Tryz.func293, Tryz.ntmps293
    go_wp2
    go_ret
    exact ⟨by rw [h2]; rfl, rfl⟩
theorem wraps_i63' (n : Int) (h₀ : 0 ≤ n) (h₁ : n < 2 ^ 63) : IntKind.i64.wrap n = n := by rw [IntKind.wrap_i64]; omega
theorem and7w (x : Int) (h0 : 0 ≤ x) (h1 : x < 9223372036854775808) : Go.bits .and .i64 x 7 = x % 8 := bits_mask .i64 63 (by decide) wraps_i63' 3 (by decide) x h0 (by omega)
/-- A new row of bytes 0 that may be written. -/
theorem made_bytes (n : Nat) (hn : n ≤ 1000000) (w : World) : ∃ W, (Instr.makeSlice 22 (.int .i64 (n : Int)) (.int .i64 (n : Int))).run Tryz.prog w = .ok (.slice (some ⟨w.heap.size, 0, none⟩) n n) W ∧ Below w.heap.size w W ∧ W.heap.size = w.heap.size + 1 ∧ Bytes W w.heap.size (List.replicate n 0) := by
  refine ⟨_, run_make_row' (P := Tryz.prog) 22 5 (.int .u8 0) 1 Tryz.underlying22 info_byte rfl .i64 .i64 n (by omega) (by omega) w, (Below.refl _ _).alloc (Nat.le_refl _) _, by simp, ?_⟩
  refine ⟨fun j hj => ?_, fun j hj => ?_, by simp⟩
  · rw [World.cell?_alloc_at _ _ _ _ (by simp)]
    rw [List.length_replicate] at hj
    have h2 : (madeCells #[Value.int .u8 0] n).toList[j]? = some (.int .u8 0) := by rw [toList_madeCells_one, List.getElem?_replicate, if_pos hj]
    rw [← Array.getElem?_toList, h2]
    simp [List.getD_eq_getElem?_getD, hj]
  · exact blk_frozen (heap_alloc_new w (.cells (madeCells #[.int .u8 0] n) 5)) j
/-- The row when so many digits stand in it. -/
def octTo (w n j : Nat) : List UInt8 := List.replicate (w - 1 - j) 0 ++ (octD j n ++ [0])
theorem octTo_length (w n j : Nat) (hj : j + 1 ≤ w) : (octTo w n j).length = w := by unfold octTo; simp [octD_length]; omega
theorem octTo_step (w n j : Nat) (hj : j + 1 < w) : (octTo w n j).set (w - 2 - j) (UInt8.ofNat (48 + n / 8 ^ j % 8)) = octTo w n (j + 1) := by
  unfold octTo
  rw [octD_cons, show w - 1 - j = (w - 2 - j) + 1 by omega, List.replicate_succ', List.append_assoc, List.set_append_right _ _ (by simp), List.length_replicate, Nat.sub_self, show w - 1 - (j + 1) = w - 2 - j by omega]
  rfl
theorem octTo_zero (w n : Nat) (hw : 0 < w) : octTo w n 0 = List.replicate w 0 := by
  unfold octTo octD
  rw [List.nil_append, show w - 1 - 0 = w - 1 by omega]
  rw [← List.replicate_succ' (n := w - 1) (a := (0 : UInt8)), show w - 1 + 1 = w by omega]
theorem octTo_full (w n : Nat) : octTo w n (w - 1) = octL w n := by unfold octTo octL; rw [Nat.sub_self]; rfl
set_option maxHeartbeats 1000000 in
set_option maxRecDepth 100000 in
theorem octal_any (n0 : Nat) (wd : Nat) (hw : wd = 8 ∨ wd = 12) (hn : n0 ≤ 9223372036854775807) (w : World) :
    Calls Tryz.prog 274 #[.int .i64 (n0 : Int), .int .i64 (wd : Int)] w fun e w' => (if n0 < 8 ^ (wd - 1) then e = .returned (.string (mkS (octL wd n0))) else e = .panicked noFieldC) ∧ Below w.heap.size w w' := by
  obtain ⟨W0, hmk, hb0, hz0, hB0⟩ := made_bytes wd (by omega) w
  have hwd : ((wd : Int) == 8 || (wd : Int) == 12) = true := by rcases hw with rfl | rfl <;> rfl
  have hwd2 : 8 ≤ wd ∧ wd ≤ 12 := by omega
  have HB0 := Aside0.mk hb0
  have HY0 := Aside0.mk hB0
  clear hB0 hb0
  go_enter Tryz.func274, Tryz.ntmps274
  go_wp2_with (first
    | (go_at_call 293; refine (wide_any _ _).mono ?_; rintro e w1 ⟨rfl, hw1⟩; rw [hw1, hwd]; clear hw1)
    | (go_at_call 292; refine (must_true _).mono ?_; rintro e w1 ⟨rfl, hw1⟩; rw [hw1]; clear hw1))
  obtain ⟨g, hg⟩ : ∃ g, w.heap.size = g := ⟨_, rfl⟩
  rw [hg] at HY0 ⊢
  go_loopw [0, 6] (fun nv iv wr => ∃ (j m : Nat) (x : Int), j ≤ wd - 1 ∧ iv = .int .i64 x ∧ x = (wd : Int) - 2 - j ∧ nv = .int .i64 (m : Int) ∧ m = n0 / 8 ^ j ∧ Aside0 (Bytes wr g (octTo wd n0 j)) ∧ Aside0 (Below w.heap.size w wr)) (fun _ iv _ => (intOf iv + 1).toNat)
  case atStart => exact ⟨0, n0, _, Nat.zero_le _, rfl, by omega, rfl, by simp, ⟨by rw [octTo_zero wd n0 (by omega)]; exact HY0.out⟩, HB0⟩
  case round =>
    obtain ⟨j, m, x, hj, rfl, hx, rfl, hm, HY, HB⟩ := hrel
    by_cases hx0 : 0 ≤ x
    · obtain ⟨k, rfl⟩ : ∃ k : Nat, x = k := ⟨x.toNat, by omega⟩
      have hkl : k < (octTo wd n0 j).length := by rw [octTo_length _ _ _ (by omega)]; omega
      have u0 := HY.out.cell k hkl
      have u1 := HY.out.free k hkl
      have hmn : m ≤ 9223372036854775807 := by rw [hm]; exact Nat.le_trans (Nat.div_le_self _ _) hn
      obtain ⟨d, hd⟩ : ∃ d : Nat, m % 8 = d := ⟨_, rfl⟩
      have hand : Go.bits .and .i64 (m : Int) 7 = (d : Int) := by rw [and7w _ (by omega) (by omega)]; omega
      have hd8 : d < 8 := by omega
      have HM := Aside0.mk hm
      have HX := Aside0.mk hx
      have HD := Aside0.mk hd
      have hjw : j + 1 < wd := by omega
      have hkw : k < wd := by omega
      clear hm hx hd
      go_wp2_with fail
      go_roundw
      case measure => simp [intOf]
      case rel =>
        have hb8 : (UInt8.ofNat (48 + d)).toNat = 48 + d := by simp [UInt8.toNat_ofNat']; omega
        have hs := HY.out.set k hkl (UInt8.ofNat (48 + d))
        rw [hb8] at hs
        have hk := HX.out
        have hkk : k = wd - 2 - j := by omega
        refine ⟨j + 1, m / 8, _, by omega, rfl, by omega, by go_num, by rw [HM.out, Nat.div_div_eq_div_mul, Nat.pow_succ], ⟨?_⟩, ⟨below_set HB.out (by omega)⟩⟩
        rw [← octTo_step wd n0 j hjw, ← HM.out, HD.out, ← hkk]
        exact hs
    · have hjw : j = wd - 1 := by omega
      subst hjw
      rw [octTo_full] at HY
      have hcv := HY.out.back (P := Tryz.prog) 22 9 5 wd wd (by rw [octL_length _ _ (by omega)]) Tryz.underlying22 Tryz.underlying5 Tryz.underlying9
      by_cases hlt : n0 < 8 ^ (wd - 1)
      · have hm0 : m = 0 := by rw [hm]; exact Nat.div_eq_of_lt hlt
        subst hm0
        clear hm
        go_wp2_with (go_at_call 292; refine (must_true _).mono ?_; rintro e w1 ⟨rfl, hw1⟩; rw [hw1]; clear hw1)
        go_ret
        exact ⟨rfl, by rw [← hg]; exact HB.out⟩
      · have hm0 : ((m : Int) == 0) = false := by
          have : 0 < n0 / 8 ^ (wd - 1) := Nat.div_pos (by omega) (Nat.pow_pos (by decide))
          rw [← hm] at this
          simp; omega
        clear hm
        go_wp2_with (go_at_call 292; refine (must_false _).mono ?_; rintro e w1 ⟨rfl, hw1⟩; rw [hw1]; clear hw1)
        exact ⟨rfl, rfl, by rw [← hg]; exact HB.out⟩
set_option maxRecDepth 100000 in
theorem octal_neg (n : Int) (wd : Nat) (hw : wd = 8 ∨ wd = 12) (hn : n < 0) (w : World) :
    Calls Tryz.prog 274 #[.int .i64 n, .int .i64 (wd : Int)] w fun e w' => e = .panicked noFieldC ∧ w' = w := by
  have hd0 : decide (0 ≤ n) = false := by simp; omega
  have hwd : ((wd : Int) == 8 || (wd : Int) == 12) = true := by rcases hw with rfl | rfl <;> rfl
  go_enter Tryz.func274, Tryz.ntmps274
  go_wp2_with (first
    | (go_at_call 293; refine (wide_any _ _).mono ?_; rintro e w1 ⟨rfl, hw1⟩; rw [hw1, hwd]; clear hw1)
    | (go_at_call 292; refine (must_false _).mono ?_; rintro e w1 ⟨rfl, rfl⟩))
  exact ⟨rfl, rfl, rfl⟩
/-- octal, of whatever number. -/
theorem octal_is (n : Int) (wd : Nat) (hw : wd = 8 ∨ wd = 12) (hn : n ≤ 9223372036854775807) (w : World) :
    Calls Tryz.prog 274 #[.int .i64 n, .int .i64 (wd : Int)] w fun e w' => (if octOk wd n = true then e = .returned (.string (mkS (octL wd n.toNat))) else e = .panicked noFieldC) ∧ Below w.heap.size w w' := by
  by_cases h0 : 0 ≤ n
  · obtain ⟨k, rfl⟩ : ∃ k : Nat, n = k := ⟨n.toNat, by omega⟩
    refine (octal_any k wd hw (by omega) w).mono fun e w' ⟨he, hb⟩ => ⟨?_, hb⟩
    rw [Int.toNat_natCast]
    have : octOk wd (k : Int) = true ↔ k < 8 ^ (wd - 1) := by
      rw [octOk_iff]
      constructor
      · rintro ⟨-, h⟩; exact Int.ofNat_lt.1 h
      · intro h; exact ⟨by omega, Int.ofNat_lt.2 h⟩
    by_cases h : k < 8 ^ (wd - 1)
    · rw [if_pos (this.2 h)]; rw [if_pos h] at he; exact he
    · rw [if_neg (fun e => h (this.1 e))]; rw [if_neg h] at he; exact he
  · refine (octal_neg n wd hw (by omega) w).mono fun e w' ⟨he, hw'⟩ => ⟨?_, by rw [hw']; exact Below.refl _ _⟩
    rw [if_neg (fun e => h0 ((octOk_iff wd n).1 e).1)]
    exact he
end Go.Proofs.YtbjbnipjeehaoaaGreatDoor.H
namespace Go.Proofs.YtbjbnipjeehaoaaGreatDoor.H
open Go.RowKit Go.Proofs.YtbjbnipjeehaoaaGreatDoorW.PrintWords
/-- A list of which so many ends are turned. -/
def revTo (L : List UInt8) (k : Nat) : List UInt8 := (List.range L.length).map fun p => if p < k ∨ L.length - k ≤ p then L.getD (L.length - 1 - p) 0 else L.getD p 0
theorem revTo_length (L : List UInt8) (k : Nat) : (revTo L k).length = L.length := by simp [revTo]
theorem revTo_getD (L : List UInt8) (k p : Nat) (hp : p < L.length) : (revTo L k).getD p 0 = if p < k ∨ L.length - k ≤ p then L.getD (L.length - 1 - p) 0 else L.getD p 0 := by
  unfold revTo
  rw [List.getD_eq_getElem?_getD, List.getElem?_map, List.getElem?_range hp]
  rfl
theorem ext_getD {a b : List UInt8} (hl : a.length = b.length) (h : ∀ p, p < a.length → a.getD p 0 = b.getD p 0) : a = b := by
  refine List.ext_getElem hl fun i h1 h2 => ?_
  have := h i h1
  rw [List.getD_eq_getElem?_getD, List.getD_eq_getElem?_getD, List.getElem?_eq_getElem h1, List.getElem?_eq_getElem h2] at this
  exact this
theorem revTo_zero (L : List UInt8) : revTo L 0 = L := by
  refine ext_getD (revTo_length L 0) fun p hp => ?_
  rw [revTo_length] at hp
  rw [revTo_getD L 0 p hp, if_neg (by omega)]
theorem revTo_full (L : List UInt8) (k : Nat) (hk : L.length ≤ 2 * k + 1) : revTo L k = L.reverse := by
  refine ext_getD (by rw [revTo_length, List.length_reverse]) fun p hp => ?_
  rw [revTo_length] at hp
  rw [revTo_getD L k p hp, List.getD_eq_getElem?_getD, List.getD_eq_getElem?_getD, List.getD_eq_getElem?_getD, List.getElem?_reverse hp]
  split
  · rfl
  · have : p = L.length - 1 - p := by omega
    rw [← this]
theorem getD_set_self (l : List UInt8) (i : Nat) (v : UInt8) (h : i < l.length) : (l.set i v).getD i 0 = v := by
  rw [List.getD_eq_getElem?_getD, List.getElem?_set_self h]; rfl
theorem getD_set_ne (l : List UInt8) (i j : Nat) (v : UInt8) (h : i ≠ j) : (l.set i v).getD j 0 = l.getD j 0 := by
  rw [List.getD_eq_getElem?_getD, List.getElem?_set_ne h, ← List.getD_eq_getElem?_getD]
theorem revTo_step (L : List UInt8) (k : Nat) (hk : 2 * k + 1 < L.length) : ((revTo L k).set k (L.getD (L.length - 1 - k) 0)).set (L.length - 1 - k) (L.getD k 0) = revTo L (k + 1) := by
  refine ext_getD (by rw [List.length_set, List.length_set, revTo_length, revTo_length]) fun p hp => ?_
  rw [List.length_set, List.length_set, revTo_length] at hp
  rw [revTo_getD L (k + 1) p hp]
  by_cases h1 : p = L.length - 1 - k
  · subst h1
    rw [getD_set_self _ _ _ (by rw [List.length_set, revTo_length]; omega), if_pos (by omega)]
    congr 1
    omega
  · rw [getD_set_ne _ _ _ _ (Ne.symm h1)]
    by_cases h2 : p = k
    · subst h2
      rw [getD_set_self _ _ _ (by rw [revTo_length]; omega), if_pos (by omega)]
    · rw [getD_set_ne _ _ _ _ (Ne.symm h2), revTo_getD L k p hp]
      by_cases h3 : p < k ∨ L.length - k ≤ p
      · rw [if_pos h3, if_pos (by omega)]
      · rw [if_neg h3, if_neg (by omega)]
set_option maxHeartbeats 1000000 in
set_option maxRecDepth 100000 in
theorem reverse_any (g : Nat) (L : List UInt8) (cap : Nat) (w : World) (hY : Bytes w g L) (hl : L.length ≤ 1000) (B : Nat) (hB : B ≤ g) :
    Calls Tryz.prog 294 #[.slice (some ⟨g, 0, none⟩) L.length cap] w fun e w' => e = .returned (.tuple #[]) ∧ Bytes w' g L.reverse ∧ Below B w w' := by
  have HY := Aside0.mk hY
  clear hY
  go_enter Tryz.func294, Tryz.ntmps294
  go_wp2_with fail
  go_loopw [2, 3] (fun iv jv wr => ∃ (k : Nat) (x : Int), iv = .int .i64 k ∧ jv = .int .i64 x ∧ x = (L.length : Int) - 1 - k ∧ 2 * k ≤ L.length ∧ Aside0 (Bytes wr g (revTo L k)) ∧ Aside0 (Below B w wr)) (fun iv _ _ => L.length - (intOf iv).toNat)
  case atStart => exact ⟨0, _, rfl, rfl, by omega, by omega, ⟨by rw [revTo_zero]; exact HY.out⟩, ⟨Below.refl _ _⟩⟩
  case round =>
    obtain ⟨k, x, rfl, rfl, hx, hk, HR, HB⟩ := hrel
    have hrl := revTo_length L k
    by_cases hlt : (k : Int) < x
    · obtain ⟨m, rfl⟩ : ∃ m : Nat, x = m := ⟨x.toNat, by omega⟩
      have u0 := HR.out.cell k (by rw [hrl]; omega)
      have u1 := HR.out.cell m (by rw [hrl]; omega)
      have f0 := HR.out.free k (by rw [hrl]; omega)
      have f1 := HR.out.free m (by rw [hrl]; omega)
      have hkm : ¬ k = m := by omega
      have hmk : ¬ m = k := by omega
      have b0 : k < L.length := by omega
      have b1 : m < L.length := by omega
      have hX := Aside0.mk hx
      clear hx hrl
      go_wp2_with fail
      go_region
      go_wp2_with fail
      go_roundw
      case measure => simp [intOf]; omega
      case rel =>
        have hx := hX.out
        have em : m = L.length - 1 - k := by omega
        have h1 := (HR.out.set k (by rw [revTo_length]; omega) (L.getD (L.length - 1 - k) 0)).set m (by rw [List.length_set, revTo_length]; omega) (L.getD k 0)
        rw [em, revTo_step L k (by omega)] at h1
        have e1 : (revTo L k)[m]?.getD 0 = L.getD (L.length - 1 - k) 0 := by
          rw [← List.getD_eq_getElem?_getD, revTo_getD L k m (by omega), if_neg (by omega), em]
        have e2 : (revTo L k)[k]?.getD 0 = L.getD k 0 := by
          rw [← List.getD_eq_getElem?_getD, revTo_getD L k k (by omega), if_neg (by omega)]
        refine ⟨k + 1, _, by go_num, rfl, by omega, by omega, ⟨?_⟩, ⟨below_drewN ((HB.out.setCell hB _).setCell hB _) 1⟩⟩
        rw [e1, e2, em]
        exact h1.below (B := g + 1) (below_drew (Below.refl _ _)) (by omega)
    · go_wp2_with fail
      go_end0
      have := HR.out
      rw [revTo_full L k (by omega)] at this
      exact ⟨rfl, this, HB.out⟩
end Go.Proofs.YtbjbnipjeehaoaaGreatDoor.H
namespace Go.Proofs.YtbjbnipjeehaoaaGreatDoor.H
open Go.RowKit Go.Proofs.YtbjbnipjeehaoaaGreatDoorW.PrintWords
/-- A block of bytes, by its cells. -/
def byteCells (l : List UInt8) : Array Value := (l.map fun c => Value.int .u8 c.toNat).toArray
theorem byteCells_size (l : List UInt8) : (byteCells l).size = l.length := by simp [byteCells]
theorem bytes_of_block {W : World} {g : Nat} {l : List UInt8} (h : W.heap[g]? = some (.cells (byteCells l) 5 (0, 0))) : Bytes W g l := by
  refine ⟨fun j hj => ?_, fun j hj => blk_frozen h j, blk_lt h⟩
  rw [blk_cell h j]
  simp [byteCells, List.getD_eq_getElem?_getD, List.getElem?_eq_getElem hj]
/-- 'make([]byte, 0, n)'. -/
theorem made_room (n : Nat) (hn : n ≤ 1000000) (w : World) : (Instr.makeSlice 22 (.int .i64 0) (.int .i64 (n : Int))).run Tryz.prog w = .ok (.slice (some ⟨w.heap.size, 0, none⟩) 0 n) (w.alloc (.cells (byteCells (List.replicate n 0)) 5)) := by
  obtain ⟨i, hi, hinfo⟩ : ∃ i, Tryz.prog.info? 5 = some i ∧ (i.zero, i.size, i.bytes) = (some (.int .u8 0), 1, 1) := by
    have := info_byte
    cases h : Tryz.prog.info? 5 with
    | none => rw [h] at this; cases this
    | some i => rw [h] at this; exact ⟨i, rfl, Option.some.inj this⟩
  have h1 : i.zero = some (.int .u8 0) := congrArg Prod.fst hinfo
  have h2 : i.size = 1 := congrArg (fun x => x.2.1) hinfo
  have h3 : i.bytes = 1 := congrArg (fun x => x.2.2) hinfo
  rw [run_make (P := Tryz.prog) w 22 5 i (.int .u8 0) Tryz.underlying22 hi h1 .i64 .i64 0 (n : Int) (by omega) (by omega) (by rw [h3]; omega) (by omega)]
  rw [h2, Nat.mul_one, Int.toNat_natCast]
  have e : madeCells (Value.int .u8 0).cells n = byteCells (List.replicate n 0) := by
    apply Array.toList_inj.1
    rw [show (Value.int .u8 0).cells = #[.int .u8 0] from rfl, toList_madeCells_one]
    simp [byteCells]
  rw [e]
  rfl
/-- One byte put behind the others, where there is room. -/
theorem append_byte (W : World) (g : Nat) (l : List UInt8) (k : Nat) (c : UInt8) (a : Nat) (h : W.heap[g]? = some (.cells (byteCells (l ++ List.replicate (k + 1) 0)) 5 (0, 0))) (ha : W.cell? ⟨a, 0, none⟩ = some (.int .u8 c.toNat)) :
    (Builtin.append_ #[22, 22] 22 #[.slice (some ⟨g, 0, none⟩) l.length (l.length + (k + 1)), .slice (some ⟨a, 0, none⟩) 1 1]).run Tryz.prog W =
      .ok (.slice (some ⟨g, 0, none⟩) (l.length + 1) (l.length + (k + 1))) (W.setRow g (byteCells ((l ++ [c]) ++ List.replicate k 0))) := by
  obtain ⟨i, hi, h2⟩ : ∃ i, Tryz.prog.info? 5 = some i ∧ i.size = 1 := by
    have := info_byte
    cases h : Tryz.prog.info? 5 with
    | none => rw [h] at this; cases this
    | some i => rw [h] at this; exact ⟨i, rfl, congrArg (fun x => x.2.1) (Option.some.inj this)⟩
  have := run_append_room (P := Tryz.prog) W 22 22 5 i Tryz.underlying22 hi g l.length (l.length + (k + 1)) _ h ⟨a, 0, none⟩ 1 1 [.int .u8 c.toNat] (by rw [h2]; rfl) (by
      intro j u hj
      cases j with
      | zero => simp at hj; subst hj; exact ha
      | succ j => simp at hj) (by simp [Value.oneCell']) (by omega) (by rw [h2, byteCells_size]; simp)
  rw [h2, Nat.mul_one] at this
  have e : ((byteCells (l ++ List.replicate (k + 1) 0)).toList.take l.length ++ [Value.int .u8 c.toNat] ++ (byteCells (l ++ List.replicate (k + 1) 0)).toList.drop (l.length + [Value.int .u8 (c.toNat : Int)].length)).toArray = byteCells ((l ++ [c]) ++ List.replicate k 0) := by
    apply Array.toList_inj.1
    simp only [byteCells, List.map_append, List.length_singleton, List.map_replicate, List.map_cons, List.map_nil]
    rw [List.take_left' (by simp), List.drop_append]
    simp [List.replicate_succ]
  rw [e] at this
  exact this
theorem wp_append_run {P : Program} {o : Oper} {a : Act} {w : World} {K : Act → World → Prop} {Q : Exit → Act → World → Prop} (s x : Operand) (t : TypeId) (ho : o.op = .call { callee := .builtin .append, args := #[s, x], argTypes := #[t, t] })
    (v vx : Value) (hs : a.eval s = v) (hx : a.eval x = vx) (v' : Value) (w' : World) (hr : (Builtin.append_ #[t, t] o.type #[v, vx]).run P w = .ok v' w') (h : K (a.put o.dst v') w') : o.wp P a w K Q := by
  unfold Oper.wp execOp
  simp only [ho, resolve, invoke, builtin, Sem.run_bind, Sem.run_pure, Result.andThen_ok, List.map_toArray, List.map_cons, List.map_nil, hs, hx, hr]
  exact h
theorem wpList_append_run {P : Program} {ops : Array Oper} {rest : List Oper} {o : Oper} {a : Act} {w : World} {Q : Exit → Act → World → Prop} (hgd : o.guard = none) (s x : Operand) (t : TypeId) (ho : o.op = .call { callee := .builtin .append, args := #[s, x], argTypes := #[t, t] })
    (v vx : Value) (hs : a.eval s = v) (hx : a.eval x = vx) (v' : Value) (w' : World) (hr : (Builtin.append_ #[t, t] o.type #[v, vx]).run P w = .ok v' w') (h : wpList P ops Q rest (a.put o.dst v') w') : wpList P ops Q (o :: rest) a w :=
  wpList_plain hgd fun _ hK => wp_append_run s x t ho v vx hs hx v' w' hr (hK _ _ h)
theorem baseOk_iff (w : Nat) (n : Int) : baseOk w n = true ↔ (w = 12 ∨ (-72057594037927936 ≤ n ∧ n < 72057594037927936)) := by simp [baseOk]
set_option maxHeartbeats 2000000 in
set_option maxRecDepth 100000 in
theorem base_ok (n : Int) (wd : Nat) (hw : wd = 8 ∨ wd = 12) (h1 : -9223372036854775808 ≤ n) (h2 : n ≤ 9223372036854775807) (hok : baseOk wd n = true) (w : World) :
    Calls Tryz.prog 276 #[.int .i64 n, .int .i64 (wd : Int)] w fun e w' => e = .returned (.string (mkS (baseL wd n))) ∧ Below w.heap.size w w' := by
  have hmk := made_room wd (by omega)
  have hwd : ((wd : Int) == 8 || (wd : Int) == 12) = true := by rcases hw with rfl | rfl <;> rfl
  have hwd2 : 8 ≤ wd ∧ wd ≤ 12 := by omega
  have hg0 := heap_alloc_new w (.cells (byteCells (List.replicate wd 0)) 5)
  have HB0 := Aside0.mk (below_alloc (Below.refl w.heap.size w) (.cells (byteCells (List.replicate wd 0)) 5))
  have hcond : ((wd : Int) == 12) = true ∨ (((wd : Int) == 12) = false ∧ -72057594037927936 ≤ n ∧ n < 72057594037927936) := by
    rcases hw with rfl | rfl
    · right
      have := (baseOk_iff 8 n).1 hok
      exact ⟨rfl, by omega⟩
    · exact .inl rfl
  go_enter Tryz.func276, Tryz.ntmps276
  rcases hcond with hc | ⟨hc, hc1, hc2⟩
  · go_wp2_with (first
      | (go_at_call 293; refine (wide_any _ _).mono ?_; rintro e w1 ⟨rfl, hw1⟩; rw [hw1, hwd]; clear hw1)
      | (go_at_call 292; refine (must_true _).mono ?_; rintro e w1 ⟨rfl, hw1⟩; rw [hw1]; clear hw1))
    obtain ⟨g, hg⟩ : ∃ g, w.heap.size = g := ⟨_, rfl⟩
    rw [hg] at hg0 ⊢
    have HG0 := Aside0.mk hg0
    clear hg0
    go_loopw [0, 5, 25] (fun nv bv cv wr => ∃ (j : Nat) (m : Int), j ≤ wd - 1 ∧ cv = .int .i64 j ∧ nv = .int .i64 m ∧ bv = .slice (some ⟨g, 0, none⟩) j wd ∧ Aside0 (m = n / 256 ^ j) ∧ -9223372036854775808 ≤ m ∧ m ≤ 9223372036854775807 ∧ Aside0 (m < 0 ↔ n < 0) ∧ Aside0 (wr.heap[g]? = some (.cells (byteCells (leD j n ++ List.replicate (wd - j) 0)) 5 (0, 0))) ∧ Aside0 (Below w.heap.size w wr)) (fun _ _ cv _ => wd - (intOf cv).toNat)
    case atStart => exact ⟨0, n, Nat.zero_le _, rfl, rfl, rfl, ⟨by simp⟩, h1, h2, ⟨Iff.rfl⟩, ⟨by rw [Nat.sub_zero]; exact HG0.out⟩, HB0⟩
    case round =>
      obtain ⟨j, m, hj, rfl, rfl, rfl, HM, hm1, hm2, HS, HC, HB⟩ := hrel
      have hlw := blk_lt HC.out
      by_cases hlt : j < wd - 1
      · have hlt2 : (j : Int) < (wd : Int) - 1 := by omega
        obtain ⟨k, hk⟩ : ∃ k, wd - j = k + 1 := ⟨wd - j - 1, by omega⟩
        have hgc := blk_alloc HC.out (.cells #[.int .u8 (m % 256)] 5)
        rw [hk] at hgc
        have hc8 : ((UInt8.ofNat (m % 256).toNat).toNat : Int) = m % 256 := by simp [UInt8.toNat_ofNat']; omega
        have hap := append_byte _ g (leD j n) k (UInt8.ofNat (m % 256).toNat) wr.heap.size hgc (by rw [hc8]; exact blk_cell (heap_alloc_new wr (.cells #[.int .u8 (m % 256)] 5)) 0)
        rw [leD_length, show j + (k + 1) = wd by omega] at hap
        obtain ⟨nl, hnl⟩ : ∃ nl, leD j n ++ [UInt8.ofNat (m % 256).toNat] ++ List.replicate k 0 = nl := ⟨_, rfl⟩
        rw [hnl] at hap
        have HNL := Aside0.mk hnl
        have HK := Aside0.mk hk
        have HGC := Aside0.mk hgc
        clear hnl
        clear hk hgc hc8
        go_wp2_with ((with_reducible refine gate_dst (N := 31) rfl ?_); refine wpList_append_run rfl (.tmp 27) (.tmp 30) 22 rfl _ _ rfl rfl _ _ hap ?_)
        go_roundw
        case measure => simp [intOf]; omega
        case rel =>
          have hk := HK.out
          refine ⟨j + 1, m / 256, by omega, by go_num, rfl, rfl, ⟨?_⟩, by omega, by omega, ⟨?_⟩, ⟨?_⟩, ⟨below_setRow (below_alloc HB.out _) (by omega) _⟩⟩
          · rw [HM.out, Int.ediv_ediv_of_nonneg (Int.pow_nonneg (by decide)), Int.pow_succ]
          · rw [← HS.out]; omega
          · rw [leD_snoc, ← HM.out, show wd - (j + 1) = k by omega, HNL.out]
            exact setRow_heap _ _ _ _ _ _ HGC.out
      · obtain rfl : j = wd - 1 := by omega
        have hgc := blk_alloc HC.out (.cells #[.int .u8 (signB n).toNat] 5)
        rw [show wd - (wd - 1) = 0 + 1 by omega] at hgc
        have hap := append_byte _ g (leD (wd - 1) n) 0 (signB n) wr.heap.size hgc (blk_cell (heap_alloc_new wr (.cells #[.int .u8 (signB n).toNat] 5)) 0)
        rw [leD_length, show wd - 1 + (0 + 1) = wd by omega] at hap
        have hY := bytes_of_block (setRow_heap _ _ _ (byteCells (leD (wd - 1) n ++ [signB n] ++ List.replicate 0 0)) _ _ hgc)
        rw [List.replicate_zero, List.append_nil] at hY hap
        have hlen : (leD (wd - 1) n ++ [signB n]).length = wd := by rw [List.length_append, leD_length]; simp; omega
        have hrev : (leD (wd - 1) n ++ [signB n]).reverse = baseL wd n := by unfold baseL; simp
        obtain ⟨fl, hfl⟩ : ∃ fl, leD (wd - 1) n ++ [signB n] = fl := ⟨_, rfl⟩
        rw [hfl] at hap hY hlen hrev
        have HY := Aside0.mk hY
        have HL := Aside0.mk hlen
        have HREV := Aside0.mk hrev
        clear hfl
        have HB1 := Aside0.mk (below_setRow (below_alloc HB.out (.cells #[.int .u8 (signB n).toNat] 5)) (g := g) (by omega) (byteCells fl))
        clear hgc hY hlen hrev
        by_cases hneg : n < 0
        · have hmn := HS.out.2 hneg
          have hs : ((signB n).toNat : Int) = 255 := by unfold signB; rw [if_pos hneg]; rfl
          rw [hs] at hap HY HB1
          clear hs
          go_wp2_with (first | ((with_reducible refine gate_dst (N := 39) rfl ?_); refine wpList_append_run rfl (.tmp 37) (.tmp 38) 22 rfl _ _ rfl rfl _ _ hap ?_) | (go_at_call 294; have h5 := reverse_any g _ wd _ HY.out (by rw [HL.out]; omega) w.heap.size (by omega); rw [HL.out] at h5; refine h5.mono ?_; rintro e w5 ⟨rfl, hY5, hb5⟩; rw [HREV.out] at hY5; have hcv := hY5.back (P := Tryz.prog) 22 9 5 wd wd (by rw [baseL_length _ _ (by omega)]) Tryz.underlying22 Tryz.underlying5 Tryz.underlying9))
          go_ret
          exact ⟨rfl, HB1.out.trans hb5⟩
        · have hmn : ¬ m < 0 := fun h => hneg (HS.out.1 h)
          have hs : ((signB n).toNat : Int) = 128 := by unfold signB; rw [if_neg hneg]; rfl
          rw [hs] at hap HY HB1
          clear hs
          go_wp2_with (first | ((with_reducible refine gate_dst (N := 42) rfl ?_); refine wpList_append_run rfl (.tmp 40) (.tmp 41) 22 rfl _ _ rfl rfl _ _ hap ?_) | (go_at_call 294; have h5 := reverse_any g _ wd _ HY.out (by rw [HL.out]; omega) w.heap.size (by omega); rw [HL.out] at h5; refine h5.mono ?_; rintro e w5 ⟨rfl, hY5, hb5⟩; rw [HREV.out] at hY5; have hcv := hY5.back (P := Tryz.prog) 22 9 5 wd wd (by rw [baseL_length _ _ (by omega)]) Tryz.underlying22 Tryz.underlying5 Tryz.underlying9))
          go_ret
          exact ⟨rfl, HB1.out.trans hb5⟩
  · go_wp2_with (first
      | (go_at_call 293; refine (wide_any _ _).mono ?_; rintro e w1 ⟨rfl, hw1⟩; rw [hw1, hwd]; clear hw1)
      | (go_at_call 292; refine (must_true _).mono ?_; rintro e w1 ⟨rfl, hw1⟩; rw [hw1]; clear hw1))
    obtain ⟨g, hg⟩ : ∃ g, w.heap.size = g := ⟨_, rfl⟩
    rw [hg] at hg0 ⊢
    have HG0 := Aside0.mk hg0
    clear hg0
    go_loopw [0, 5, 25] (fun nv bv cv wr => ∃ (j : Nat) (m : Int), j ≤ wd - 1 ∧ cv = .int .i64 j ∧ nv = .int .i64 m ∧ bv = .slice (some ⟨g, 0, none⟩) j wd ∧ Aside0 (m = n / 256 ^ j) ∧ -9223372036854775808 ≤ m ∧ m ≤ 9223372036854775807 ∧ Aside0 (m < 0 ↔ n < 0) ∧ Aside0 (wr.heap[g]? = some (.cells (byteCells (leD j n ++ List.replicate (wd - j) 0)) 5 (0, 0))) ∧ Aside0 (Below w.heap.size w wr)) (fun _ _ cv _ => wd - (intOf cv).toNat)
    case atStart => exact ⟨0, n, Nat.zero_le _, rfl, rfl, rfl, ⟨by simp⟩, h1, h2, ⟨Iff.rfl⟩, ⟨by rw [Nat.sub_zero]; exact HG0.out⟩, HB0⟩
    case round =>
      obtain ⟨j, m, hj, rfl, rfl, rfl, HM, hm1, hm2, HS, HC, HB⟩ := hrel
      have hlw := blk_lt HC.out
      by_cases hlt : j < wd - 1
      · have hlt2 : (j : Int) < (wd : Int) - 1 := by omega
        obtain ⟨k, hk⟩ : ∃ k, wd - j = k + 1 := ⟨wd - j - 1, by omega⟩
        have hgc := blk_alloc HC.out (.cells #[.int .u8 (m % 256)] 5)
        rw [hk] at hgc
        have hc8 : ((UInt8.ofNat (m % 256).toNat).toNat : Int) = m % 256 := by simp [UInt8.toNat_ofNat']; omega
        have hap := append_byte _ g (leD j n) k (UInt8.ofNat (m % 256).toNat) wr.heap.size hgc (by rw [hc8]; exact blk_cell (heap_alloc_new wr (.cells #[.int .u8 (m % 256)] 5)) 0)
        rw [leD_length, show j + (k + 1) = wd by omega] at hap
        obtain ⟨nl, hnl⟩ : ∃ nl, leD j n ++ [UInt8.ofNat (m % 256).toNat] ++ List.replicate k 0 = nl := ⟨_, rfl⟩
        rw [hnl] at hap
        have HNL := Aside0.mk hnl
        have HK := Aside0.mk hk
        have HGC := Aside0.mk hgc
        clear hnl
        clear hk hgc hc8
        go_wp2_with ((with_reducible refine gate_dst (N := 31) rfl ?_); refine wpList_append_run rfl (.tmp 27) (.tmp 30) 22 rfl _ _ rfl rfl _ _ hap ?_)
        go_roundw
        case measure => simp [intOf]; omega
        case rel =>
          have hk := HK.out
          refine ⟨j + 1, m / 256, by omega, by go_num, rfl, rfl, ⟨?_⟩, by omega, by omega, ⟨?_⟩, ⟨?_⟩, ⟨below_setRow (below_alloc HB.out _) (by omega) _⟩⟩
          · rw [HM.out, Int.ediv_ediv_of_nonneg (Int.pow_nonneg (by decide)), Int.pow_succ]
          · rw [← HS.out]; omega
          · rw [leD_snoc, ← HM.out, show wd - (j + 1) = k by omega, HNL.out]
            exact setRow_heap _ _ _ _ _ _ HGC.out
      · obtain rfl : j = wd - 1 := by omega
        have hgc := blk_alloc HC.out (.cells #[.int .u8 (signB n).toNat] 5)
        rw [show wd - (wd - 1) = 0 + 1 by omega] at hgc
        have hap := append_byte _ g (leD (wd - 1) n) 0 (signB n) wr.heap.size hgc (blk_cell (heap_alloc_new wr (.cells #[.int .u8 (signB n).toNat] 5)) 0)
        rw [leD_length, show wd - 1 + (0 + 1) = wd by omega] at hap
        have hY := bytes_of_block (setRow_heap _ _ _ (byteCells (leD (wd - 1) n ++ [signB n] ++ List.replicate 0 0)) _ _ hgc)
        rw [List.replicate_zero, List.append_nil] at hY hap
        have hlen : (leD (wd - 1) n ++ [signB n]).length = wd := by rw [List.length_append, leD_length]; simp; omega
        have hrev : (leD (wd - 1) n ++ [signB n]).reverse = baseL wd n := by unfold baseL; simp
        obtain ⟨fl, hfl⟩ : ∃ fl, leD (wd - 1) n ++ [signB n] = fl := ⟨_, rfl⟩
        rw [hfl] at hap hY hlen hrev
        have HY := Aside0.mk hY
        have HL := Aside0.mk hlen
        have HREV := Aside0.mk hrev
        clear hfl
        have HB1 := Aside0.mk (below_setRow (below_alloc HB.out (.cells #[.int .u8 (signB n).toNat] 5)) (g := g) (by omega) (byteCells fl))
        clear hgc hY hlen hrev
        by_cases hneg : n < 0
        · have hmn := HS.out.2 hneg
          have hs : ((signB n).toNat : Int) = 255 := by unfold signB; rw [if_pos hneg]; rfl
          rw [hs] at hap HY HB1
          clear hs
          go_wp2_with (first | ((with_reducible refine gate_dst (N := 39) rfl ?_); refine wpList_append_run rfl (.tmp 37) (.tmp 38) 22 rfl _ _ rfl rfl _ _ hap ?_) | (go_at_call 294; have h5 := reverse_any g _ wd _ HY.out (by rw [HL.out]; omega) w.heap.size (by omega); rw [HL.out] at h5; refine h5.mono ?_; rintro e w5 ⟨rfl, hY5, hb5⟩; rw [HREV.out] at hY5; have hcv := hY5.back (P := Tryz.prog) 22 9 5 wd wd (by rw [baseL_length _ _ (by omega)]) Tryz.underlying22 Tryz.underlying5 Tryz.underlying9))
          go_ret
          exact ⟨rfl, HB1.out.trans hb5⟩
        · have hmn : ¬ m < 0 := fun h => hneg (HS.out.1 h)
          have hs : ((signB n).toNat : Int) = 128 := by unfold signB; rw [if_neg hneg]; rfl
          rw [hs] at hap HY HB1
          clear hs
          go_wp2_with (first | ((with_reducible refine gate_dst (N := 42) rfl ?_); refine wpList_append_run rfl (.tmp 40) (.tmp 41) 22 rfl _ _ rfl rfl _ _ hap ?_) | (go_at_call 294; have h5 := reverse_any g _ wd _ HY.out (by rw [HL.out]; omega) w.heap.size (by omega); rw [HL.out] at h5; refine h5.mono ?_; rintro e w5 ⟨rfl, hY5, hb5⟩; rw [HREV.out] at hY5; have hcv := hY5.back (P := Tryz.prog) 22 9 5 wd wd (by rw [baseL_length _ _ (by omega)]) Tryz.underlying22 Tryz.underlying5 Tryz.underlying9))
          go_ret
          exact ⟨rfl, HB1.out.trans hb5⟩
theorem base_bad (n : Int) (wd : Nat) (hw : wd = 8 ∨ wd = 12) (hok : baseOk wd n = false) (w : World) :
    Calls Tryz.prog 276 #[.int .i64 n, .int .i64 (wd : Int)] w fun e w' => e = .panicked noFieldC ∧ w' = w := by
  have h : ¬ (wd = 12 ∨ (-72057594037927936 ≤ n ∧ n < 72057594037927936)) := fun h => by rw [(baseOk_iff wd n).2 h] at hok; cases hok
  obtain rfl : wd = 8 := by omega
  have hwd : (((8 : Nat) : Int) == 8 || ((8 : Nat) : Int) == 12) = true := rfl
  by_cases h1 : n < -72057594037927936
  · have hd : decide (-72057594037927936 ≤ n) = false := by simp; omega
    go_enter Tryz.func276, Tryz.ntmps276
    go_wp2_with (first
      | (go_at_call 293; refine (wide_any _ _).mono ?_; rintro e w1 ⟨rfl, hw1⟩; rw [hw1]; clear hw1)
      | (go_at_call 292; refine (must_false _).mono ?_; rintro e w1 ⟨rfl, rfl⟩))
    exact ⟨rfl, rfl, rfl⟩
  · have hd : decide (n < 72057594037927936) = false := by simp; omega
    have hd2 : -72057594037927936 ≤ n := by omega
    go_enter Tryz.func276, Tryz.ntmps276
    go_wp2_with (first
      | (go_at_call 293; refine (wide_any _ _).mono ?_; rintro e w1 ⟨rfl, hw1⟩; rw [hw1]; clear hw1)
      | (go_at_call 292; refine (must_false _).mono ?_; rintro e w1 ⟨rfl, rfl⟩))
    exact ⟨rfl, rfl, rfl⟩
theorem base_is (n : Int) (wd : Nat) (hw : wd = 8 ∨ wd = 12) (h1 : -9223372036854775808 ≤ n) (h2 : n ≤ 9223372036854775807) (w : World) :
    Calls Tryz.prog 276 #[.int .i64 n, .int .i64 (wd : Int)] w fun e w' => (if baseOk wd n = true then e = .returned (.string (mkS (baseL wd n))) else e = .panicked noFieldC) ∧ Below w.heap.size w w' := by
  cases h : baseOk wd n with
  | true => exact (base_ok n wd hw h1 h2 h w).mono fun e w' ⟨he, hb⟩ => ⟨by rw [if_pos rfl]; exact he, hb⟩
  | false => exact (base_bad n wd hw h w).mono fun e w' ⟨he, hb⟩ => ⟨by rw [if_neg (by decide)]; exact he, by rw [hb]; exact Below.refl _ _⟩
end Go.Proofs.YtbjbnipjeehaoaaGreatDoor.H
namespace Go.Proofs.YtbjbnipjeehaoaaGreatDoor.H
open Go.RowKit Go.Proofs.YtbjbnipjeehaoaaGreatDoorW.PrintWords
/-- The deferred closure of try[string], where the frame below panics with noField. -/
theorem catchstring (p q : Nat) (x y : Value) (older : List PanicEntry) (w : World)
    (hp : w.cell? ⟨p, 0, none⟩ = some x) (hp' : w.frozen? ⟨p, 0, none⟩ = false) (hq : w.cell? ⟨q, 0, none⟩ = some y) (hq' : w.frozen? ⟨q, 0, none⟩ = false)
    (hpq : ¬ p = q) (hpb : p < w.heap.size) (hqb : q < w.heap.size) :
    CallsD Tryz.prog 291 #[.pointer (some ⟨p, 0, none⟩), .pointer (some ⟨q, 0, none⟩)] (.panicking ({ v := .iface 288 (.agg #[.int .i64 4]), recovered := false } :: older)) w fun e u' w' =>
      e = .returned (.tuple #[]) ∧ u' = .panicking ({ v := .iface 288 (.agg #[.int .i64 4]), recovered := true } :: older) ∧
        w' = ((w.setCell ⟨p, 0, none⟩ (.string ⟨#[]⟩)).setCell ⟨q, 0, none⟩ (.bool false)).alloc (.cells #[.int .i64 4] 288) := by
  have hta := fun (W : World) => run_typeAssert_struct (P := Tryz.prog) 288 20 (.agg #[.int .i64 4]) W Tryz.underlying288
  refine callsD_of_wpS Tryz.func291 rfl fun c₀ cs hu => ?_
  apply wpS_seq
  apply wpS_region
  simp [wpOpsS, go_sem, recoverD, hu, Tryz.ntmps291, Exit.thenS]
  refine wpS_of_wp ?_
  simp only [Array.replicate, List.replicate, List.setIfInBounds_toArray, List.set_cons_zero, List.set_cons_succ, List.append_toArray, List.cons_append, List.nil_append]
  go_wp2
  simp [bodyPostS, results, Tryz.results291]
theorem idlestring (a b : Value) (w : World) :
    CallsD Tryz.prog 291 #[a, b] .returning w fun e u' w' => e = .returned (.tuple #[]) ∧ u' = .returning ∧ w' = w := by
  refine callsD_of_wpS Tryz.func291 rfl fun c₀ cs hu => ?_
  apply wpS_seq
  apply wpS_region
  simp [wpOpsS, go_sem, recoverD, hu, Tryz.ntmps291, Exit.thenS]
  refine wpS_of_wp ?_
  simp only [Array.replicate, List.replicate, List.setIfInBounds_toArray, List.set_cons_zero, List.set_cons_succ, List.append_toArray, List.cons_append, List.nil_append]
  go_wp2
  cases c₀
  simp_all [bodyPostS, results, Tryz.results291]
theorem tryOctal_ok (cap : List Value) (v : ByteArray) (w : World) (h : ∀ W, Below w.heap.size w W → Calls Tryz.prog 273 cap.toArray W fun e w' => e = .returned (.string v) ∧ Below W.heap.size W w') :
    Calls Tryz.prog 272 #[.func (.func 273) #[] cap.toArray] w fun e w' => e = .returned (.tuple #[.string v, .bool true]) ∧ Below w.heap.size w w' := by
  have hmf : ∀ (fn : Fn) (first cap : Array Value) (w : World), (Instr.makeFunc fn first cap).run Tryz.prog w = .ok (.func fn first cap) w := fun _ _ _ _ => rfl
  have H := Aside0.mk h
  clear h
  obtain ⟨h1, h2⟩ := heap_two w (.cells #[.string ⟨#[]⟩] 9) (.cells #[.bool false] 4)
  have HB := Aside0.mk (below_alloc (below_alloc (Below.refl w.heap.size w) (.cells #[.string ⟨#[]⟩] 9)) (.cells #[.bool false] 4))
  go_enter_defers Tryz.func272, Tryz.ntmps272
  go_wp2_with (go_at_call 273; refine (H.out _ HB.out).mono ?_; rintro e w5 ⟨rfl, hb5⟩; have c1 := (hb5.block _ (blk_lt h1)).trans h1; have c2 := (hb5.block _ (blk_lt h2)).trans h2; have k1 : w5.cell? ⟨w.heap.size, 0, none⟩ = some (.string ⟨#[]⟩) := blk_cell c1 0; have k2 : w5.cell? ⟨w.heap.size + 1, 0, none⟩ = some (.bool false) := blk_cell c2 0; have f1 := blk_frozen c1 0; have f2 := blk_frozen c2 0; have l1 := blk_lt c1; have l2 := blk_lt c2; have HBW := Aside0.mk (below_next HB.out hb5))
  refine leaves_cons (f := 291) (args := #[.pointer (some ⟨w.heap.size, 0, none⟩), .pointer (some ⟨w.heap.size + 1, 0, none⟩)]) (by simp) (by simp [go_sem]) ?_
  refine (idlestring _ _ _).mono ?_
  rintro e u' w'' ⟨rfl, rfl, rfl⟩
  simp [Leaves, settle, results, Tryz.results272, go_sem, k1, k2, l1, l2]
  exact below_set (below_set HBW.out (Nat.le_refl _)) (by omega)
theorem tryOctal_bad (cap : List Value) (w : World) (h : ∀ W, Below w.heap.size w W → Calls Tryz.prog 273 cap.toArray W fun e w' => e = .panicked noFieldC ∧ Below W.heap.size W w') :
    Calls Tryz.prog 272 #[.func (.func 273) #[] cap.toArray] w fun e w' => e = .returned (.tuple #[.string ⟨#[]⟩, .bool false]) ∧ Below w.heap.size w w' := by
  have hmf : ∀ (fn : Fn) (first cap : Array Value) (w : World), (Instr.makeFunc fn first cap).run Tryz.prog w = .ok (.func fn first cap) w := fun _ _ _ _ => rfl
  have H := Aside0.mk h
  clear h
  obtain ⟨h1, h2⟩ := heap_two w (.cells #[.string ⟨#[]⟩] 9) (.cells #[.bool false] 4)
  have HB := Aside0.mk (below_alloc (below_alloc (Below.refl w.heap.size w) (.cells #[.string ⟨#[]⟩] 9)) (.cells #[.bool false] 4))
  go_enter_defers Tryz.func272, Tryz.ntmps272
  go_wp2_with (go_at_call 273; refine (H.out _ HB.out).mono ?_; rintro e w5 ⟨rfl, hb5⟩; have c1 := (hb5.block _ (blk_lt h1)).trans h1; have c2 := (hb5.block _ (blk_lt h2)).trans h2; have HBW := Aside0.mk (below_next HB.out hb5))
  have l1 := blk_lt c1
  have l2 := blk_lt c2
  refine leaves_cons (f := 291) (args := #[.pointer (some ⟨w.heap.size, 0, none⟩), .pointer (some ⟨w.heap.size + 1, 0, none⟩)]) (by simp) (by simp [go_sem]) ?_
  refine (catchstring _ _ (.string ⟨#[]⟩) (.bool false) [] _ (blk_cell c1 0) (blk_frozen c1 0) (blk_cell c2 0) (blk_frozen c2 0) (by omega) l1 l2).mono ?_
  rintro e u' w'' ⟨rfl, rfl, rfl⟩
  have k1 : w5.cell? ⟨w.heap.size, 0, none⟩ = some (.string ⟨#[]⟩) := blk_cell c1 0
  have k2 : w5.cell? ⟨w.heap.size + 1, 0, none⟩ = some (.bool false) := blk_cell c2 0
  simp [Leaves, settle, results, Tryz.results272, go_sem, k1, k2, l1, l2]
  exact below_alloc (below_set (below_set HBW.out (Nat.le_refl _)) (by omega)) _
theorem tryBase_ok (cap : List Value) (v : ByteArray) (w : World) (h : ∀ W, Below w.heap.size w W → Calls Tryz.prog 275 cap.toArray W fun e w' => e = .returned (.string v) ∧ Below W.heap.size W w') :
    Calls Tryz.prog 272 #[.func (.func 275) #[] cap.toArray] w fun e w' => e = .returned (.tuple #[.string v, .bool true]) ∧ Below w.heap.size w w' := by
  have hmf : ∀ (fn : Fn) (first cap : Array Value) (w : World), (Instr.makeFunc fn first cap).run Tryz.prog w = .ok (.func fn first cap) w := fun _ _ _ _ => rfl
  have H := Aside0.mk h
  clear h
  obtain ⟨h1, h2⟩ := heap_two w (.cells #[.string ⟨#[]⟩] 9) (.cells #[.bool false] 4)
  have HB := Aside0.mk (below_alloc (below_alloc (Below.refl w.heap.size w) (.cells #[.string ⟨#[]⟩] 9)) (.cells #[.bool false] 4))
  go_enter_defers Tryz.func272, Tryz.ntmps272
  go_wp2_with (go_at_call 275; refine (H.out _ HB.out).mono ?_; rintro e w5 ⟨rfl, hb5⟩; have c1 := (hb5.block _ (blk_lt h1)).trans h1; have c2 := (hb5.block _ (blk_lt h2)).trans h2; have k1 : w5.cell? ⟨w.heap.size, 0, none⟩ = some (.string ⟨#[]⟩) := blk_cell c1 0; have k2 : w5.cell? ⟨w.heap.size + 1, 0, none⟩ = some (.bool false) := blk_cell c2 0; have f1 := blk_frozen c1 0; have f2 := blk_frozen c2 0; have l1 := blk_lt c1; have l2 := blk_lt c2; have HBW := Aside0.mk (below_next HB.out hb5))
  refine leaves_cons (f := 291) (args := #[.pointer (some ⟨w.heap.size, 0, none⟩), .pointer (some ⟨w.heap.size + 1, 0, none⟩)]) (by simp) (by simp [go_sem]) ?_
  refine (idlestring _ _ _).mono ?_
  rintro e u' w'' ⟨rfl, rfl, rfl⟩
  simp [Leaves, settle, results, Tryz.results272, go_sem, k1, k2, l1, l2]
  exact below_set (below_set HBW.out (Nat.le_refl _)) (by omega)
theorem tryBase_bad (cap : List Value) (w : World) (h : ∀ W, Below w.heap.size w W → Calls Tryz.prog 275 cap.toArray W fun e w' => e = .panicked noFieldC ∧ Below W.heap.size W w') :
    Calls Tryz.prog 272 #[.func (.func 275) #[] cap.toArray] w fun e w' => e = .returned (.tuple #[.string ⟨#[]⟩, .bool false]) ∧ Below w.heap.size w w' := by
  have hmf : ∀ (fn : Fn) (first cap : Array Value) (w : World), (Instr.makeFunc fn first cap).run Tryz.prog w = .ok (.func fn first cap) w := fun _ _ _ _ => rfl
  have H := Aside0.mk h
  clear h
  obtain ⟨h1, h2⟩ := heap_two w (.cells #[.string ⟨#[]⟩] 9) (.cells #[.bool false] 4)
  have HB := Aside0.mk (below_alloc (below_alloc (Below.refl w.heap.size w) (.cells #[.string ⟨#[]⟩] 9)) (.cells #[.bool false] 4))
  go_enter_defers Tryz.func272, Tryz.ntmps272
  go_wp2_with (go_at_call 275; refine (H.out _ HB.out).mono ?_; rintro e w5 ⟨rfl, hb5⟩; have c1 := (hb5.block _ (blk_lt h1)).trans h1; have c2 := (hb5.block _ (blk_lt h2)).trans h2; have HBW := Aside0.mk (below_next HB.out hb5))
  have l1 := blk_lt c1
  have l2 := blk_lt c2
  refine leaves_cons (f := 291) (args := #[.pointer (some ⟨w.heap.size, 0, none⟩), .pointer (some ⟨w.heap.size + 1, 0, none⟩)]) (by simp) (by simp [go_sem]) ?_
  refine (catchstring _ _ (.string ⟨#[]⟩) (.bool false) [] _ (blk_cell c1 0) (blk_frozen c1 0) (blk_cell c2 0) (blk_frozen c2 0) (by omega) l1 l2).mono ?_
  rintro e u' w'' ⟨rfl, rfl, rfl⟩
  have k1 : w5.cell? ⟨w.heap.size, 0, none⟩ = some (.string ⟨#[]⟩) := blk_cell c1 0
  have k2 : w5.cell? ⟨w.heap.size + 1, 0, none⟩ = some (.bool false) := blk_cell c2 0
  simp [Leaves, settle, results, Tryz.results272, go_sem, k1, k2, l1, l2]
  exact below_alloc (below_set (below_set HBW.out (Nat.le_refl _)) (by omega)) _
end Go.Proofs.YtbjbnipjeehaoaaGreatDoor.H
namespace Go.Proofs.YtbjbnipjeehaoaaGreatDoor.H
open Go.RowKit Go.Proofs.YtbjbnipjeehaoaaGreatDoorW.PrintWords
theorem octal1 (p q : Nat) (n : Int) (wd : Nat) (w : World) (hp : w.cell? ⟨p, 0, none⟩ = some (.int .i64 n)) (hq : w.cell? ⟨q, 0, none⟩ = some (.int .i64 (wd : Int))) (hw : wd = 8 ∨ wd = 12) (hn : n ≤ 9223372036854775807) :
    Calls Tryz.prog 273 #[.pointer (some ⟨p, 0, none⟩), .pointer (some ⟨q, 0, none⟩)] w fun e w' => (if octOk wd n = true then e = .returned (.string (mkS (octL wd n.toNat))) else e = .panicked noFieldC) ∧ Below w.heap.size w w' := by
  have h := octal_is n wd hw hn
  cases hok : octOk wd n with
  | true =>
    simp only [hok, if_true] at h ⊢
    have H := Aside0.mk h
    clear h
    go_enter Tryz.func273, Tryz.ntmps273
    go_wp2_with (go_at_call 274; refine (H.out _).mono ?_; rintro e w1 ⟨rfl, hb1⟩)
    go_ret
    exact ⟨rfl, hb1⟩
  | false =>
    simp only [hok, Bool.false_eq_true, if_false] at h ⊢
    have H := Aside0.mk h
    clear h
    go_enter Tryz.func273, Tryz.ntmps273
    go_wp2_with (go_at_call 274; refine (H.out _).mono ?_; rintro e w1 ⟨rfl, hb1⟩)
    exact ⟨rfl, rfl, hb1⟩
theorem base1 (p q : Nat) (n : Int) (wd : Nat) (w : World) (hp : w.cell? ⟨p, 0, none⟩ = some (.int .i64 n)) (hq : w.cell? ⟨q, 0, none⟩ = some (.int .i64 (wd : Int))) (hw : wd = 8 ∨ wd = 12) (hn0 : -9223372036854775808 ≤ n) (hn : n ≤ 9223372036854775807) :
    Calls Tryz.prog 275 #[.pointer (some ⟨p, 0, none⟩), .pointer (some ⟨q, 0, none⟩)] w fun e w' => (if baseOk wd n = true then e = .returned (.string (mkS (baseL wd n))) else e = .panicked noFieldC) ∧ Below w.heap.size w w' := by
  have h := base_is n wd hw hn0 hn
  cases hok : baseOk wd n with
  | true =>
    simp only [hok, if_true] at h ⊢
    have H := Aside0.mk h
    clear h
    go_enter Tryz.func275, Tryz.ntmps275
    go_wp2_with (go_at_call 276; refine (H.out _).mono ?_; rintro e w1 ⟨rfl, hb1⟩)
    go_ret
    exact ⟨rfl, hb1⟩
  | false =>
    simp only [hok, Bool.false_eq_true, if_false] at h ⊢
    have H := Aside0.mk h
    clear h
    go_enter Tryz.func275, Tryz.ntmps275
    go_wp2_with (go_at_call 276; refine (H.out _).mono ?_; rintro e w1 ⟨rfl, hb1⟩)
    exact ⟨rfl, rfl, hb1⟩
/-- What a field is, as two results. -/
def saidV (o : Option (List UInt8)) : Value := match o with
  | some l => .tuple #[.string (mkS l), .bool true]
  | none => .tuple #[.string ⟨#[]⟩, .bool false]
theorem Octal_any (n : Int) (wd : Nat) (w : World) (hw : wd = 8 ∨ wd = 12) (hn : n ≤ 9223372036854775807) :
    Calls Tryz.prog 238 #[.int .i64 n, .int .i64 (wd : Int)] w fun e w' => e = .returned (saidV (if octOk wd n = true then some (octL wd n.toNat) else none)) ∧ Below w.heap.size w w' := by
  have hmf : ∀ (fn : Fn) (first cap : Array Value) (w : World), (Instr.makeFunc fn first cap).run Tryz.prog w = .ok (.func fn first cap) w := fun _ _ _ _ => rfl
  obtain ⟨g1, g2⟩ := heap_two w (.cells #[.int .i64 n] 3) (.cells #[.int .i64 (wd : Int)] 3)
  have HB := Aside0.mk (below_alloc (below_alloc (Below.refl w.heap.size w) (.cells #[.int .i64 n] 3)) (.cells #[.int .i64 (wd : Int)] 3))
  have h := fun W (hb : Below ((w.alloc (.cells #[.int .i64 n] 3)).alloc (.cells #[.int .i64 (wd : Int)] 3)).heap.size ((w.alloc (.cells #[.int .i64 n] 3)).alloc (.cells #[.int .i64 (wd : Int)] 3)) W) => octal1 w.heap.size (w.heap.size + 1) n wd W (blk_cell ((hb.block _ (blk_lt g1)).trans g1) 0) (blk_cell ((hb.block _ (blk_lt g2)).trans g2) 0) hw hn
  cases hok : octOk wd n with
  | true =>
    simp only [hok, if_true] at h ⊢
    have H := Aside0.mk (tryOctal_ok [.pointer (some ⟨w.heap.size, 0, none⟩), .pointer (some ⟨w.heap.size + 1, 0, none⟩)] _ _ h)
    clear h
    go_enter Tryz.func238, Tryz.ntmps238
    go_wp2_with (go_at_call 272; refine H.out.mono ?_; rintro e w1 ⟨rfl, hb1⟩)
    go_ret2
    exact ⟨rfl, below_next HB.out hb1⟩
  | false =>
    simp only [hok, Bool.false_eq_true, if_false] at h ⊢
    have H := Aside0.mk (tryOctal_bad [.pointer (some ⟨w.heap.size, 0, none⟩), .pointer (some ⟨w.heap.size + 1, 0, none⟩)] _ h)
    clear h
    go_enter Tryz.func238, Tryz.ntmps238
    go_wp2_with (go_at_call 272; refine H.out.mono ?_; rintro e w1 ⟨rfl, hb1⟩)
    go_ret2
    exact ⟨rfl, below_next HB.out hb1⟩
theorem Base_any (n : Int) (wd : Nat) (w : World) (hw : wd = 8 ∨ wd = 12) (hn0 : -9223372036854775808 ≤ n) (hn : n ≤ 9223372036854775807) :
    Calls Tryz.prog 239 #[.int .i64 n, .int .i64 (wd : Int)] w fun e w' => e = .returned (saidV (if baseOk wd n = true then some (baseL wd n) else none)) ∧ Below w.heap.size w w' := by
  have hmf : ∀ (fn : Fn) (first cap : Array Value) (w : World), (Instr.makeFunc fn first cap).run Tryz.prog w = .ok (.func fn first cap) w := fun _ _ _ _ => rfl
  obtain ⟨g1, g2⟩ := heap_two w (.cells #[.int .i64 n] 3) (.cells #[.int .i64 (wd : Int)] 3)
  have HB := Aside0.mk (below_alloc (below_alloc (Below.refl w.heap.size w) (.cells #[.int .i64 n] 3)) (.cells #[.int .i64 (wd : Int)] 3))
  have h := fun W (hb : Below ((w.alloc (.cells #[.int .i64 n] 3)).alloc (.cells #[.int .i64 (wd : Int)] 3)).heap.size ((w.alloc (.cells #[.int .i64 n] 3)).alloc (.cells #[.int .i64 (wd : Int)] 3)) W) => base1 w.heap.size (w.heap.size + 1) n wd W (blk_cell ((hb.block _ (blk_lt g1)).trans g1) 0) (blk_cell ((hb.block _ (blk_lt g2)).trans g2) 0) hw hn0 hn
  cases hok : baseOk wd n with
  | true =>
    simp only [hok, if_true] at h ⊢
    have H := Aside0.mk (tryBase_ok [.pointer (some ⟨w.heap.size, 0, none⟩), .pointer (some ⟨w.heap.size + 1, 0, none⟩)] _ _ h)
    clear h
    go_enter Tryz.func239, Tryz.ntmps239
    go_wp2_with (go_at_call 272; refine H.out.mono ?_; rintro e w1 ⟨rfl, hb1⟩)
    go_ret2
    exact ⟨rfl, below_next HB.out hb1⟩
  | false =>
    simp only [hok, Bool.false_eq_true, if_false] at h ⊢
    have H := Aside0.mk (tryBase_bad [.pointer (some ⟨w.heap.size, 0, none⟩), .pointer (some ⟨w.heap.size + 1, 0, none⟩)] _ h)
    clear h
    go_enter Tryz.func239, Tryz.ntmps239
    go_wp2_with (go_at_call 272; refine H.out.mono ?_; rintro e w1 ⟨rfl, hb1⟩)
    go_ret2
    exact ⟨rfl, below_next HB.out hb1⟩
theorem Field_any (n : Int) (wd : Nat) (w : World) (hw : wd = 8 ∨ wd = 12) (hn0 : -9223372036854775808 ≤ n) (hn : n ≤ 9223372036854775807) :
    Calls Tryz.prog 197 #[.int .i64 n, .int .i64 (wd : Int)] w fun e w' => e = .returned (saidV (fieldT n wd)) ∧ Below w.heap.size w w' := by
  have h1 := fun W => Octal_any n wd W hw hn
  have h2 := fun W => Base_any n wd W hw hn0 hn
  unfold fieldT
  cases hok : octOk wd n with
  | true =>
    simp only [hok, if_true] at h1 ⊢
    have H1 := Aside0.mk h1
    clear h1 h2
    go_enter Tryz.func197, Tryz.ntmps197
    go_wp2_with (go_at_call 238; refine (H1.out _).mono ?_; rintro e w1 ⟨rfl, hb1⟩; simp only [saidV])
    go_ret2
    exact ⟨rfl, hb1⟩
  | false =>
    simp only [hok, Bool.false_eq_true, if_false] at h1 ⊢
    have H1 := Aside0.mk h1
    clear h1
    cases hbk : baseOk wd n with
    | true =>
      simp only [hbk, if_true] at h2 ⊢
      have H2 := Aside0.mk h2
      clear h2
      go_enter Tryz.func197, Tryz.ntmps197
      go_wp2_with (first
        | (go_at_call 238; refine (H1.out _).mono ?_; rintro e w1 ⟨rfl, hb1⟩; simp only [saidV])
        | (go_at_call 239; refine (H2.out _).mono ?_; rintro e w2 ⟨rfl, hb2⟩; simp only [saidV]))
      go_ret2
      exact ⟨rfl, below_next hb1 hb2⟩
    | false =>
      simp only [hbk, Bool.false_eq_true, if_false] at h2 ⊢
      have H2 := Aside0.mk h2
      clear h2
      go_enter Tryz.func197, Tryz.ntmps197
      go_wp2_with (first
        | (go_at_call 238; refine (H1.out _).mono ?_; rintro e w1 ⟨rfl, hb1⟩; simp only [saidV])
        | (go_at_call 239; refine (H2.out _).mono ?_; rintro e w2 ⟨rfl, hb2⟩; simp only [saidV]))
      go_ret2
      exact ⟨rfl, below_next hb1 hb2⟩
end Go.Proofs.YtbjbnipjeehaoaaGreatDoor.H
namespace Go.Proofs.YtbjbnipjeehaoaaGreatDoor.H
open Go.RowKit Go.Proofs.YtbjbnipjeehaoaaGreatDoorW.PrintWords
theorem octD_pad (n k : Nat) (hn : n < 8 ^ k) : ∀ d, octD (k + d) n = List.replicate d 48 ++ octD k n
  | 0 => rfl
  | d + 1 => by
    rw [show k + (d + 1) = (k + d) + 1 by omega, octD_cons, octD_pad n k hn d, List.replicate_succ, List.cons_append]
    congr 1
    have : n / 8 ^ (k + d) = 0 := Nat.div_eq_of_lt (Nat.lt_of_lt_of_le hn (Nat.pow_le_pow_right (by decide) (by omega)))
    rw [this]
    rfl
theorem tz64_any (w : World) (hG : Good w) : Calls Tryz.prog 290 #[.int .u64 8] w fun e w' => e = .returned (.int .i64 3) ∧ w' = w := by
  have ht := hG.tz
  have e0 : Go.bits .and .u64 8 (IntKind.u64.wrap (-8)) = 8 := by decide
  have e2 : IntKind.u64.wrap 2286961704410830920 = 2286961704410830920 := by decide
  go_enter Tryz.func290, Tryz.ntmps290
  go_wp2_with fail
  go_ret
  exact ⟨rfl, rfl⟩
theorem tz_any (w : World) (hG : Good w) : Calls Tryz.prog 269 #[.int .u64 8] w fun e w' => e = .returned (.int .i64 3) ∧ w' = w := by
  go_enter Tryz.func269, Tryz.ntmps269
  go_wp2_with (go_at_call 290; refine (tz64_any _ hG).mono ?_; rintro e w1 ⟨rfl, rfl⟩)
  go_ret
  exact ⟨rfl, rfl⟩
theorem two_any (w : World) : Calls Tryz.prog 268 #[.int .i64 8] w fun e w' => e = .returned (.bool true) ∧ w' = w := by
  have h : Go.bits .and .i64 8 7 = 0 := by rw [and7w _ (by decide) (by decide)]; rfl
  go_enter Tryz.func268, Tryz.ntmps268
  go_wp2_with fail
  go_ret
  exact ⟨rfl, rfl⟩
theorem digits_at (k : Nat) (h : k < 8) : ∀ h2, (⟨#[48, 49, 50, 51, 52, 53, 54, 55, 56, 57, 97, 98, 99, 100, 101, 102, 103, 104, 105, 106, 107, 108, 109, 110, 111, 112, 113, 114, 115, 116, 117, 118, 119, 120, 121, 122]⟩ : ByteArray)[k]'h2 = UInt8.ofNat (48 + k) := by
  intro h2
  rcases k with _ | _ | _ | _ | _ | _ | _ | _ | k
  all_goals first | rfl | omega
/-- The array when so many digits stand in it. -/
def fmtTo (n j : Nat) : List UInt8 := List.replicate (65 - j) 0 ++ octD j n
theorem fmtTo_length (n j : Nat) (hj : j ≤ 65) : (fmtTo n j).length = 65 := by unfold fmtTo; simp [octD_length]; omega
theorem fmtTo_step (n j : Nat) (hj : j < 65) : (fmtTo n j).set (64 - j) (UInt8.ofNat (48 + n / 8 ^ j % 8)) = fmtTo n (j + 1) := by
  unfold fmtTo
  rw [octD_cons, show 65 - j = (64 - j) + 1 by omega, List.replicate_succ', List.append_assoc, List.set_append_right _ _ (by simp), List.length_replicate, Nat.sub_self, show 65 - (j + 1) = 64 - j by omega]
  rfl
theorem zero_cells (w : World) : Bytes (w.alloc (.cells Tryz.zeroCells270 270)) w.heap.size (fmtTo 0 0) := by
  have hz : Tryz.zeroCells270 = (List.replicate 65 (Value.int .u8 0)).toArray := by kernel_rfl
  have h := heap_alloc_new w (.cells Tryz.zeroCells270 270)
  refine ⟨fun j hj => ?_, fun j hj => blk_frozen h j, blk_lt h⟩
  rw [fmtTo_length _ _ (by omega)] at hj
  rw [blk_cell h j, hz]
  unfold fmtTo octD
  rw [List.append_nil, Nat.sub_zero]
  obtain ⟨N, hN⟩ : ∃ N, N = 65 := ⟨_, rfl⟩
  rw [← hN] at hj ⊢
  simp [List.getD_eq_getElem?_getD, hj]
theorem slice_arr (g k : Nat) (hk : k < 65) (W : World) : (Instr.sliceAt 270 (.pointer (some ⟨g, 0, none⟩)) (some (.int .i64 (k : Int))) none none).run Tryz.prog W = .ok (.slice (some ⟨g, k, none⟩) (65 - k) (65 - k)) W := by
  have hl : Tryz.prog.arrayLen 270 = 65 := by kernel_rfl
  have h := run_sliceAt_array_l (P := Tryz.prog) W 270 ⟨g, 0, none⟩ (by kernel_rfl) .i64 (k : Int) (by omega) (by rw [hl]; omega)
  rw [hl, Int.toNat_natCast] at h
  have hs : (sizeOf (Tryz.prog.elem 270)).run Tryz.prog W = .ok 1 W := by kernel_rfl
  rw [h, hs]
  have hne : ¬ 65 = k := by omega
  simp [slicedAt, hne, Result.andThen, Addr.add]
  intro h; exact h.symm
/-- A part of a block of bytes, up to its end, as a string. -/
theorem _root_.Go.Proofs.YtbjbnipjeehaoaaGreatDoor.Bytes.tail {P : Program} {W : World} {g : Nat} {l : List UInt8} (h : Bytes W g l) (src dst e : TypeId) (k n cap : Nat) (hn : n + k = l.length) (hs : P.underlying src = some (.slice e)) (he : P.underlying e = some (.int .u8)) (hd : P.underlying dst = some .string) :
    (convert src dst (.slice (some ⟨g, k, none⟩) n cap)).run P W = .ok (.string (mkS (l.drop k))) W := by
  have := run_convert_bytes_arg (P := P) W src e hs he g k n cap ((l.drop k).map fun b => (b.toNat : Int)) (by simp; omega) (fun i hi => by
    rw [h.cell (k + i) (by omega)]
    simp [List.getD_eq_getElem?_getD, List.getElem?_eq_getElem (show k + i < l.length by omega)]) dst hd
  rw [this]
  congr 2
  unfold strOfNums mkS
  rw [List.map_map, show ((fun n : Int => UInt8.ofNat n.toNat) ∘ fun b : UInt8 => (b.toNat : Int)) = id from funext fun b => by simp, List.map_id]
theorem and7u (x : Nat) (h : x < 262144) : Go.bits .and .u64 (x : Int) 7 = ((x % 8 : Nat) : Int) := by
  have := u64_and_nat x 7 (by omega) (by omega)
  rw [show (7 : Nat) = 2 ^ 3 - 1 by decide, Nat.and_two_pow_sub_one_eq_mod] at this
  exact this
set_option maxHeartbeats 2000000 in
set_option maxRecDepth 100000 in
theorem formatBits_any (n : Nat) (hn : n < 262144) (w : World) (hG : Good w) :
    Calls Tryz.prog 228 #[.slice none 0 0, .int .u64 (n : Int), .int .i64 8, .bool false, .bool false] w fun e w' => (∃ k, 1 ≤ k ∧ k ≤ 6 ∧ n < 8 ^ k ∧ e = .returned (.tuple #[.slice none 0 0, .string (mkS (octD k n))])) ∧ Below w.heap.size w w' := by
  have HG := Aside0.mk hG
  clear hG
  have hda := digits_at
  have hY0 := zero_cells w
  have g0 := heap_alloc_new w (.cells Tryz.zeroCells270 270)
  have HB0 := Aside0.mk (below_alloc (Below.refl w.heap.size w) (.cells Tryz.zeroCells270 270))
  have HY0 := Aside0.mk hY0
  clear hY0 g0
  go_enter Tryz.func228, Tryz.ntmps228
  go_wp2_with (first
    | (go_at_call 268; refine (two_any _).mono ?_; rintro e w1 ⟨rfl, hw1⟩; rw [hw1]; clear hw1)
    | (go_at_call 269; refine (tz_any _ (HG.out.below HB0.out)).mono ?_; rintro e w1 ⟨rfl, hw1⟩; rw [hw1]; clear hw1))
  obtain ⟨g, hg⟩ : ∃ g, w.heap.size = g := ⟨_, rfl⟩
  rw [hg] at HY0 ⊢
  go_loopw [1, 13] (fun uv iv wr => ∃ (j m k : Nat), j + k = 65 ∧ j ≤ 5 ∧ uv = .int .u64 (m : Int) ∧ iv = .int .i64 (k : Int) ∧ Aside0 (m = n / 8 ^ j) ∧ m < 262144 ∧ Aside0 (Bytes wr g (fmtTo n j)) ∧ Aside0 (Below w.heap.size w wr)) (fun uv _ _ => (intOf uv).toNat)
  case atStart => exact ⟨0, n, 65, by omega, by omega, rfl, rfl, ⟨by simp⟩, hn, HY0, HB0⟩
  case round =>
    obtain ⟨j, m, k, hjk, hj, rfl, rfl, HM, hm, HY, HB⟩ := hrel
    obtain ⟨k, rfl⟩ : ∃ i, k = i + 1 := ⟨k - 1, by omega⟩
    have u0 := HY.out.cell k (by rw [fmtTo_length _ _ (by omega)]; omega)
    have f0 := HY.out.free k (by rw [fmtTo_length _ _ (by omega)]; omega)
    obtain ⟨d, hd⟩ : ∃ d, m % 8 = d := ⟨_, rfl⟩
    have hd8 : d < 8 := by omega
    have hand := and7u m hm
    rw [hd] at hand
    have HD := Aside0.mk hd
    have hk65 : k < 65 := by omega
    clear hd
    by_cases hlt : 8 ≤ m
    · have hb8 : ((UInt8.ofNat (48 + d)).toNat : Int) = (48 + (d : Int)) % 256 := by simp [UInt8.toNat_ofNat']
      go_wp2_with fail
      go_roundw
      case measure => simp [intOf]; omega
      case rel =>
        have hs := HY.out.set k (by rw [fmtTo_length _ _ (by omega)]; omega) (UInt8.ofNat (48 + d))
        rw [hb8] at hs
        have hk : k = 64 - j := by omega
        have hjn : j + 1 ≤ 5 := by
          have h2 := HM.out
          by_cases e : j = 5
          · subst e
            have h5 : (8 : Nat) ^ 5 = 32768 := by decide
            rw [h5] at h2
            omega
          · omega
        refine ⟨j + 1, m / 8, k, by omega, hjn, by go_num, rfl, ⟨by rw [HM.out, Nat.div_div_eq_div_mul, Nat.pow_succ]⟩, by omega, ⟨?_⟩, ⟨HB.out.setCell (show w.heap.size ≤ g by omega) _⟩⟩
        rw [← fmtTo_step n j (by omega), ← HM.out, HD.out, ← hk]
        exact hs
    · have hmd : m = d := by have := HD.out; omega
      subst hmd
      have hb8 : ((UInt8.ofNat (48 + m)).toNat : Int) = (48 + (m : Int)) % 256 := by simp [UInt8.toNat_ofNat']
      have hs := HY.out.set k (by rw [fmtTo_length _ _ (by omega)]; omega) (UInt8.ofNat (48 + m))
      rw [hb8] at hs
      have hfull : (fmtTo n j).set k (UInt8.ofNat (48 + m)) = fmtTo n (j + 1) := by
        have h1 := fmtTo_step n j (by omega)
        rw [← HM.out, HD.out, show 64 - j = k by omega] at h1
        exact h1
      rw [hfull] at hs
      have hsl := slice_arr g k hk65
      have hdrop : (fmtTo n (j + 1)).drop k = octD (j + 1) n := by
        unfold fmtTo
        rw [List.drop_append_of_le_length (by simp; omega), List.drop_of_length_le (by simp; omega), List.nil_append]
      have hcv := hs.tail (P := Tryz.prog) 22 9 5 k (65 - k) (65 - k) (by rw [fmtTo_length _ _ (by omega)]; omega) Tryz.underlying22 Tryz.underlying5 Tryz.underlying9
      rw [hdrop] at hcv
      have hnk : n < 8 ^ (j + 1) := by
        have h2 := HM.out
        have hp : 0 < 8 ^ j := Nat.pow_pos (by decide)
        have h3 : n / 8 ^ j < 8 := by rw [← h2]; omega
        have h4 := (Nat.div_lt_iff_lt_mul hp).1 h3
        rw [Nat.pow_succ, Nat.mul_comm]
        exact h4
      have HNK := Aside0.mk hnk
      clear hs hfull hdrop hnk
      go_wp2_with fail
      go_ret2
      exact ⟨⟨j + 1, by omega, by omega, HNK.out, rfl⟩, HB.out.setCell (show w.heap.size ≤ g by omega) _⟩
end Go.Proofs.YtbjbnipjeehaoaaGreatDoor.H
namespace Go.Proofs.YtbjbnipjeehaoaaGreatDoor.H
open Go.RowKit Go.Proofs.YtbjbnipjeehaoaaGreatDoorW.PrintWords
theorem str_add {P : Program} {a b c : List UInt8} {s t : ByteArray} (hs : s = mkS a) (ht : t = mkS b) (hc : a ++ b = c) (h : c.length ≤ 9223372036854775807) (W : World) : (Op.stringOp .add s t).run P W = .ok (.string (mkS c)) W := by
  subst hs ht hc
  rw [run_string_add_sum _ _ _ (by simp at h ⊢; exact h), append_mkS]
theorem repeat_byte (x : UInt8) (c : Nat) (i : Int) (hi : i = c) (w : World) (hc : c ≤ 1000000) :
    Calls Tryz.prog 117 #[.string ⟨#[x]⟩, .int .i64 i] w fun e w' => e = .returned (.string (mkS (List.replicate c x))) ∧ Below w.heap.size w w' := by
  subst hi
  have h1 := Tryz.strings_Repeat ⟨#[x]⟩ c w (by omega) (by simp [ByteArray.size]; omega)
  have e : Lib.repeatL (⟨#[x]⟩ : ByteArray).data.toList c = List.replicate c x := by
    have := Lib.repeatL_replicate x 1 c
    rw [Nat.mul_one] at this
    exact this
  rw [e] at h1
  exact h1
theorem fmt8i_any (n : Nat) (hn : n < 262144) (w : World) (hG : Good w) :
    Calls Tryz.prog 180 #[.int .i64 (n : Int), .int .i64 8] w fun e w' => (∃ k, 1 ≤ k ∧ k ≤ 6 ∧ n < 8 ^ k ∧ e = .returned (.string (mkS (octD k n)))) ∧ Below w.heap.size w w' := by
  have hd : decide ((n : Int) < 0) = false := by simp
  have hw : IntKind.u64.wrap (n : Int) = (n : Int) := by rw [IntKind.wrap_u64]; omega
  have hw2 : (n : Int) % 18446744073709551616 = n := by omega
  go_enter Tryz.func180, Tryz.ntmps180
  go_wp2_with (go_at_call 228; refine (formatBits_any n hn _ hG).mono ?_; rintro e w1 ⟨⟨k, hk1, hk6, hnk, rfl⟩, hb1⟩)
  go_ret
  exact ⟨⟨k, hk1, hk6, hnk, rfl⟩, hb1⟩
theorem fmt8_any (n : Nat) (hn : n < 262144) (w : World) (hG : Good w) :
    Calls Tryz.prog 198 #[.int .i64 (n : Int), .int .i64 8] w fun e w' => (∃ k, 1 ≤ k ∧ k ≤ 6 ∧ n < 8 ^ k ∧ e = .returned (.string (mkS (octD k n)))) ∧ Below w.heap.size w w' := by
  go_enter Tryz.func198, Tryz.ntmps198
  go_wp2_with (go_at_call 180; refine (fmt8i_any n hn _ hG).mono ?_; rintro e w1 ⟨⟨k, hk1, hk6, hnk, rfl⟩, hb1⟩)
  go_ret
  exact ⟨⟨k, hk1, hk6, hnk, rfl⟩, hb1⟩
theorem text_any (l : List UInt8) (n : Nat) (w : World) (hl : l.length ≤ n) (hn : n ≤ 1000) :
    Calls Tryz.prog 139 #[.string (mkS l), .int .i64 (n : Int)] w fun e w' => e = .returned (.string (mkS (fill l n))) ∧ Below w.heap.size w w' := by
  obtain ⟨zs, hzs⟩ : ∃ zs, List.replicate (n - l.length) (0 : UInt8) = zs := ⟨_, rfl⟩
  obtain ⟨f, hf⟩ : ∃ f, l ++ zs = f := ⟨_, rfl⟩
  have hff : fill l n = f := by unfold fill; rw [hzs, hf]
  have hfl : f.length = n := by rw [← hff, fill_length _ _ hl]
  have a1 := fun W => str_add (P := Tryz.prog) (s := mkS l) (t := mkS zs) (a := l) (b := zs) rfl rfl hf (by omega) W
  have HSUB := Aside0.mk (show (n : Int) - (l.length : Int) = ((n - l.length : Nat) : Int) by omega)
  have HZ := Aside0.mk hzs
  rw [hff]
  clear hzs hf hff
  go_enter Tryz.func139, Tryz.ntmps139
  go_wp2_with (go_at_call 117; refine (repeat_byte 0 (n - l.length) _ HSUB.out _ (by omega)).mono ?_; rintro e w1 ⟨rfl, hb1⟩; rw [HZ.out])
  go_ret
  exact ⟨rfl, hb1⟩
theorem fieldH_any (n : Int) (wd : Nat) (w : World) (hw : wd = 8 ∨ wd = 12) (hn0 : -9223372036854775808 ≤ n) (hn : n ≤ 9223372036854775807) :
    Calls Tryz.prog 140 #[.int .i64 n, .int .i64 (wd : Int)] w fun e w' => e = .returned (.string (mkS (fld n wd))) ∧ Below w.heap.size w w' := by
  have h := fun W => Field_any n wd W hw hn0 hn
  unfold fld
  cases hf : fieldT n wd with
  | some l =>
    rw [hf] at h
    have H := Aside0.mk h
    clear h
    go_enter Tryz.func140, Tryz.ntmps140
    go_wp2_with (go_at_call 197; refine (H.out _).mono ?_; rintro e w1 ⟨rfl, hb1⟩; simp only [saidV])
    go_ret
    exact ⟨rfl, hb1⟩
  | none =>
    rw [hf] at h
    have H := Aside0.mk h
    clear h
    go_enter Tryz.func140, Tryz.ntmps140
    go_wp2_with (go_at_call 197; refine (H.out _).mono ?_; rintro e w1 ⟨rfl, hb1⟩; simp only [saidV])
    go_ret
    exact ⟨rfl, hb1⟩
theorem sumOf_snoc (l : List UInt8) (c : UInt8) : sumOf (l ++ [c]) = sumOf l + c.toNat := by unfold sumOf; rw [List.foldl_append]; rfl
set_option maxHeartbeats 2000000 in
set_option maxRecDepth 100000 in
theorem sum_any (s : List UInt8) (hs : s.length = 512) (w : World) (hG : Good w) :
    Calls Tryz.prog 141 #[.string (mkS s)] w fun e w' => e = .returned (.string (mkS (sumT (sumN (s.take 148) (s.drop 156))))) ∧ Below w.heap.size w w' := by
  obtain ⟨t, ht⟩ : ∃ t, s.take 148 ++ s.drop 156 = t := ⟨_, rfl⟩
  have htl : t.length = 504 := by rw [← ht, List.length_append, List.length_take, List.length_drop, hs]; rfl
  have hsum : sumN (s.take 148) (s.drop 156) = 256 + sumOf t := by unfold sumN; rw [← ht, sumOf_append]; omega
  have hx1 : (mkS s).extract 0 148 = mkS (s.take 148) := by rw [extract_mkS]; simp
  have hx2 : (mkS s).extract 156 s.length = mkS (s.drop 156) := by rw [extract_mkS, List.take_of_length_le (by rw [List.length_drop]; omega)]
  have hx3 : (mkS s).extract 156 512 = mkS (s.drop 156) := by rw [← hs]; exact hx2
  have a1 := fun W => str_add (P := Tryz.prog) (s := mkS (s.take 148)) (t := mkS (s.drop 156)) (a := s.take 148) (b := s.drop 156) rfl rfl ht (by omega) W
  obtain ⟨W0, cap, hcv, hb0, hz0, hY⟩ := conv_world (P := Tryz.prog) w.drew 9 22 5 (mkS t) Tryz.underlying9 Tryz.underlying22 Tryz.underlying5
  rw [data_mkS] at hY
  rw [size_mkS] at hcv
  have HG := Aside0.mk hG
  have hz : w.drew.heap.size = w.heap.size := rfl
  rw [hz] at hcv hY hz0
  have HB0 := Aside0.mk (show Below w.heap.size w W0 from below_next (below_drew (Below.refl w.heap.size w)) hb0)
  clear hb0 hz
  have HY := Aside0.mk hY
  have hst := sumOf_le t
  rw [htl] at hst
  rw [hsum]
  clear hG hY ht hsum
  go_enter Tryz.func141, Tryz.ntmps141
  go_wp2_with fail
  go_region
  go_wp2_with fail
  obtain ⟨g, hg⟩ : ∃ g, w.heap.size = g := ⟨_, rfl⟩
  rw [hg] at HY ⊢
  go_loopw [3, 14] (fun nv iv wr => ∃ (k X : Nat), k ≤ 504 ∧ iv = .int .i64 k ∧ nv = .int .i64 (X : Int) ∧ Aside0 (X = 256 + sumOf (t.take k)) ∧ wr = W0) (fun _ iv _ => 504 - (intOf iv).toNat)
  case atStart => exact ⟨0, 256, Nat.zero_le _, rfl, rfl, ⟨rfl⟩, rfl⟩
  case round =>
    obtain ⟨k, X, hk, rfl, rfl, HX, rfl⟩ := hrel
    have hXb : X < 262144 := by
      have h1 := sumOf_le (t.take k)
      rw [List.length_take] at h1
      rw [HX.out]; omega
    by_cases hlt : k < 504
    · have hkt : k < t.length := by omega
      have u0 := HY.out.cell k hkt
      obtain ⟨q, hq⟩ : ∃ q : Nat, (t.getD k 0).toNat = q := ⟨_, rfl⟩
      have hq2 : q < 256 := by rw [← hq]; exact UInt8.toNat_lt _
      rw [hq] at u0
      have HQ := Aside0.mk hq
      clear hq
      go_wp2_with fail
      go_roundw
      case measure => simp [intOf]; omega
      case rel =>
        refine ⟨k + 1, X + q, by omega, by go_num, rfl, ⟨?_⟩, trivial⟩
        rw [List.take_succ_eq_append_getElem hkt, sumOf_snoc, ← Nat.add_assoc, ← HX.out, ← HQ.out, List.getD_eq_getElem?_getD, List.getElem?_eq_getElem hkt]
        rfl
    · obtain rfl : k = 504 := by omega
      rw [List.take_of_length_le (by omega)] at HX
      have hpad : ∀ k, 1 ≤ k → k ≤ 6 → X < 8 ^ k → List.replicate (6 - k) 48 ++ octD k X = octD 6 X := fun k h1 h2 h3 => by
        have := octD_pad X k h3 (6 - k)
        rw [show k + (6 - k) = 6 by omega] at this
        exact this.symm
      have HP := Aside0.mk hpad
      have HG1 := Aside0.mk (HG.out.below HB0.out)
      have hb2 : (octD 6 X ++ [0, 32]).length = 8 := by rw [List.length_append, octD_length]; rfl
      have a2 := fun W => str_add (P := Tryz.prog) (s := mkS (octD 6 X)) (t := ⟨#[0, 32]⟩) (a := octD 6 X) (b := [0, 32]) rfl rfl rfl (by omega) W
      clear hpad a1 hx1 hx2 hx3
      go_wp2_with (first
        | (go_at_call 198; refine (fmt8_any X hXb _ HG1.out).mono ?_; rintro e w1 ⟨⟨kd, hk1, hk6, hnk, rfl⟩, hb1⟩; have hkl : (octD kd X).length = kd := octD_length kd X; have a3 := fun W => str_add (P := Tryz.prog) (s := mkS (List.replicate (6 - kd) 48)) (t := mkS (octD kd X)) (a := List.replicate (6 - kd) 48) (b := octD kd X) rfl rfl (HP.out kd hk1 hk6 hnk) (by rw [octD_length]; omega) W; have HS6 := Aside0.mk (show (6 : Int) - (kd : Int) = ((6 - kd : Nat) : Int) by omega); clear hnk)
        | (go_at_call 117; refine (repeat_byte 48 (6 - kd) _ HS6.out _ (by omega)).mono ?_; rintro e w2 ⟨rfl, hb2⟩))
      go_ret
      refine ⟨?_, below_next (below_next HB0.out hb1) hb2⟩
      unfold sumT
      rw [← HX.out]
      rfl
end Go.Proofs.YtbjbnipjeehaoaaGreatDoor.H
namespace Go.Proofs.YtbjbnipjeehaoaaGreatDoor.H
open Go.RowKit Go.Proofs.YtbjbnipjeehaoaaGreatDoorW.PrintWords
/-- A header's cells. -/
def hdCells (h : Hd) : Array Value :=
  #[.string (mkS h.name), .int .i64 h.mode, .int .i64 h.uid, .int .i64 h.gid, .int .i64 h.size, .int .i64 h.mtime, .int .u8 (h.typ.toNat : Int), .string (mkS h.link), .string (mkS h.uname), .string (mkS h.gname), .int .i64 h.major, .int .i64 h.minor, .string (mkS h.pre)]
/-- Texts that have room in memory, numbers that the machine has. -/
structure Fits (h : Hd) : Prop where
  ints : Ints h
  name : h.name.length ≤ 140737488351232
  link : h.link.length ≤ 140737488351232
  uname : h.uname.length ≤ 140737488351232
  gname : h.gname.length ≤ 140737488351232
  pre : h.pre.length ≤ 140737488351232
end Go.Proofs.YtbjbnipjeehaoaaGreatDoor.H
namespace Go.Proofs.YtbjbnipjeehaoaaGreatDoor.H
open Go.RowKit Go.Proofs.YtbjbnipjeehaoaaGreatDoorW.PrintWords
/-- A path as a prefix and a name. -/
def splitT (p : List UInt8) : List UInt8 × List UInt8 × Bool :=
  if p.length ≤ 100 then ([], p, true)
  else
    let q := Lib.indexByte (p.drop (p.length - 101)) 47
    if q < 0 then ([], [], false)
    else
      let n := q.toNat + (p.length - 101)
      if n < 1 ∨ 155 < n ∨ n = p.length - 1 then ([], [], false) else (p.take n, p.drop (n + 1), true)
def splitV (p : List UInt8) : Value := .tuple #[.string (mkS (splitT p).1), .string (mkS (splitT p).2.1), .bool (splitT p).2.2]
set_option maxHeartbeats 2000000 in
set_option maxRecDepth 100000 in
theorem split_any (p : List UInt8) (w : World) (hp : p.length ≤ 140737488355328) :
    Calls Tryz.prog 67 #[.string (mkS p)] w fun e w' => e = .returned (splitV p) ∧ Below w.heap.size w w' := by
  by_cases h : p.length ≤ 100
  · have HS : splitV p = .tuple #[.string (mkS []), .string (mkS p), .bool true] := by unfold splitV splitT; rw [if_pos h]
    rw [HS]
    clear HS
    have h' : (p.length : Int) ≤ 100 := by omega
    go_enter Tryz.func67, Tryz.ntmps67
    go_wp2
    go_ret3
    exact ⟨rfl, Below.refl _ _⟩
  · have h' : ¬ (p.length : Int) ≤ 100 := by omega
    obtain ⟨k, hk⟩ : ∃ k : Nat, p.length = k + 101 := ⟨p.length - 101, by omega⟩
    obtain ⟨q, hq⟩ : ∃ q, Lib.indexByte (p.drop k) 47 = q := ⟨_, rfl⟩
    have HIX := Aside0.mk (fun W => show Calls Tryz.prog 137 #[.string (mkS (p.drop k)), .int .u8 47] W fun e w' => e = .returned (.int .i64 q) ∧ w' = W from (by
      have := Tryz.strings_IndexByte (mkS (p.drop k)) 47 W
      rw [data_mkS, show (Int.toNat 47).toUInt8 = (47 : UInt8) from rfl, hq] at this
      exact this))
    have hx : (mkS p).extract k (k + 101) = mkS (p.drop k) := by
      rw [extract_mkS, List.take_of_length_le (by simp; omega)]
    have hge := Lib.indexByte_ge (p.drop k) 47
    rw [hq] at hge
    by_cases hneg : q < 0
    · have HS : splitV p = .tuple #[.string (mkS []), .string (mkS []), .bool false] := by
        unfold splitV splitT
        rw [if_neg h, show p.length - 101 = k by omega]
        simp only [hq, if_pos hneg]
      rw [HS]
      clear HS hq hge
      go_enter Tryz.func67, Tryz.ntmps67
      go_wp2_with (go_at_call 137; refine (HIX.out _).mono ?_; rintro e w1 ⟨rfl, hw1⟩; rw [hw1]; clear hw1)
      go_ret3
      exact ⟨rfl, Below.refl _ _⟩
    · obtain ⟨n, hn⟩ : ∃ n : Nat, q = n := ⟨q.toNat, by omega⟩
      subst hn
      have hlt : n < 101 := by
        have := (Lib.indexByte_some hq).1
        have := (List.getElem?_eq_some_iff.1 this).1
        simp at this
        omega
      have HS : splitV p = if n + k < 1 ∨ 155 < n + k ∨ n + k = p.length - 1 then .tuple #[.string (mkS []), .string (mkS []), .bool false] else .tuple #[.string (mkS (p.take (n + k))), .string (mkS (p.drop (n + k + 1))), .bool true] := by
        unfold splitV splitT
        rw [if_neg h, show p.length - 101 = k by omega]
        simp only [hq, if_neg hneg, Int.toNat_natCast]
        split <;> rfl
      rw [HS]
      clear HS hq hge
      have hnn : ¬ ((n : Int) < 0) := hneg
      have e1 : (k : Int) + 101 - 100 - 1 = k := by omega
      obtain ⟨m, hm⟩ : ∃ m, n + k = m := ⟨_, rfl⟩
      rw [hm]
      have em : (n : Int) + k = m := by omega
      by_cases c : m < 1 ∨ 155 < m ∨ m = p.length - 1
      · rw [if_pos c]
        by_cases c1 : m < 1
        · have d1 : (m : Int) < 1 := by omega
          clear c
          go_enter Tryz.func67, Tryz.ntmps67
          go_wp2_with (go_at_call 137; refine (HIX.out _).mono ?_; rintro e w1 ⟨rfl, hw1⟩; rw [hw1]; clear hw1)
          go_ret3
          exact ⟨rfl, Below.refl _ _⟩
        · have d1 : ¬ (m : Int) < 1 := by omega
          by_cases c2 : 155 < m
          · have d2 : (155 : Int) < m := by omega
            clear c
            go_enter Tryz.func67, Tryz.ntmps67
            go_wp2_with (go_at_call 137; refine (HIX.out _).mono ?_; rintro e w1 ⟨rfl, hw1⟩; rw [hw1]; clear hw1)
            go_ret3
            exact ⟨rfl, Below.refl _ _⟩
          · have d2 : ¬ (155 : Int) < m := by omega
            have d3 : ((m : Int) == (k : Int) + 101 - 1) = true := by rw [beq_iff_eq]; omega
            clear c
            go_enter Tryz.func67, Tryz.ntmps67
            go_wp2_with (go_at_call 137; refine (HIX.out _).mono ?_; rintro e w1 ⟨rfl, hw1⟩; rw [hw1]; clear hw1)
            go_ret3
            exact ⟨rfl, Below.refl _ _⟩
      · rw [if_neg c]
        have d1 : ¬ (m : Int) < 1 := by omega
        have d2 : ¬ (155 : Int) < m := by omega
        have d3 : ((m : Int) == (k : Int) + 101 - 1) = false := by rw [beq_eq_false_iff_ne]; omega
        have x1 : (mkS p).extract 0 m = mkS (p.take m) := by rw [extract_mkS, List.drop_zero, Nat.sub_zero]
        have x2 : (mkS p).extract (m + 1) (k + 101) = mkS (p.drop (m + 1)) := by rw [extract_mkS, List.take_of_length_le (by simp; omega)]
        have y0 : (0 : Int) ≤ m := by omega
        have y1 : (m : Int) ≤ k + 101 := by omega
        have y2 : (m : Int) + 1 ≤ k + 101 := by omega
        have y3 : (0 : Int) ≤ (m : Int) + 1 := by omega
        clear c
        go_enter Tryz.func67, Tryz.ntmps67
        go_wp2_with (go_at_call 137; refine (HIX.out _).mono ?_; rintro e w1 ⟨rfl, hw1⟩; rw [hw1]; clear hw1)
        go_region
        go_wp2_with fail
        go_ret3
        exact ⟨rfl, below_drew (Below.refl _ _)⟩
end Go.Proofs.YtbjbnipjeehaoaaGreatDoor.H
namespace Go.Proofs.YtbjbnipjeehaoaaGreatDoor
open Go.RowKit Go.Proofs.YtbjbnipjeehaoaaGreatDoorW.PrintWords
set_option maxRecDepth 100000 in
theorem aclText_nil (w : World) : Calls Tryz.prog 51 #[.slice none 0 0] w fun e w' => e = .returned (.string ⟨#[]⟩) ∧ Below w.heap.size w w' := by
  have HJ := Aside0.mk (fun W => Tryz.strings_Join_none none 0 ⟨#[44]⟩ W)
  go_enter Tryz.func51, Tryz.ntmps51
  go_wp2_with fail
  go_loopw [3, 11] (fun o v wr => o = .slice none 0 0 ∧ v = .int .i64 0 ∧ Aside0 (Below w.heap.size w wr)) (fun _ _ _ => 0)
  case atStart => exact ⟨rfl, rfl, ⟨Below.refl _ _⟩⟩
  case round =>
    obtain ⟨rfl, rfl, HB⟩ := hrel
    go_wp2_with fail
    refine (HJ.out _).mono ?_
    rintro e w1 ⟨rfl, rfl⟩
    go_wp2_with fail
    go_ret
    exact ⟨rfl, HB.out⟩
set_option maxRecDepth 100000 in
theorem flagsText_zero (w : World) : Calls Tryz.prog 52 #[.int .i64 0] w fun e w' => e = .returned (.string ⟨#[]⟩) ∧ Below w.heap.size w w' := by
  have HJ := Aside0.mk (fun W => Tryz.strings_Join_none none 0 ⟨#[44]⟩ W)
  have HM := Aside0.mk (flagsMay_any 0 w)
  go_enter Tryz.func52, Tryz.ntmps52
  go_wp2_with fail
  refine HM.out.mono ?_
  rintro e w1 ⟨rfl, hb1⟩
  have B1 := Aside0.mk hb1
  clear hb1
  go_wp2_with fail
  refine (fnames_any _).mono ?_
  rintro e w2 ⟨rfl, rfl⟩
  have B2 := Aside0.mk (below_alloc B1.out (.cells flagNames 9))
  have H2 := Aside0.mk (heap_alloc_new w1 (.cells flagNames 9))
  obtain ⟨W, hW⟩ : ∃ W, W = w1.alloc (.cells flagNames 9) := ⟨_, rfl⟩
  rw [← hW] at B2 H2 ⊢
  unfold flagNames at H2
  have c0 : W.cell? ⟨w1.heap.size, 0, none⟩ = some (.string ⟨#[117, 99, 104, 103]⟩) := blk_cell H2.out 0
  have c1 : W.cell? ⟨w1.heap.size, 1, none⟩ = some (.string ⟨#[117, 97, 112, 112, 110, 100]⟩) := blk_cell H2.out 1
  have c2 : W.cell? ⟨w1.heap.size, 2, none⟩ = some (.string ⟨#[110, 111, 100, 117, 109, 112]⟩) := blk_cell H2.out 2
  have c3 : W.cell? ⟨w1.heap.size, 3, none⟩ = some (.string ⟨#[111, 112, 97, 113, 117, 101]⟩) := blk_cell H2.out 3
  clear hW B1
  go_wp2_with fail
  go_loopw [3, 11] (fun o v wr => ∃ i : Nat, i ≤ 4 ∧ o = .slice none 0 0 ∧ v = .int .i64 (i : Int) ∧ wr = W) (fun _ v _ => 4 - (intOf v).toNat)
  case atStart => exact ⟨0, by omega, rfl, rfl, rfl⟩
  case round =>
    obtain ⟨i, hi, rfl, rfl, rfl⟩ := hrel
    obtain rfl | rfl | rfl | rfl | rfl : i = 0 ∨ i = 1 ∨ i = 2 ∨ i = 3 ∨ i = 4 := by omega
    · go_wp2_with fail
      exact ⟨⟨1, by omega, rfl, rfl, trivial⟩, by simp [intOf]⟩
    · go_wp2_with fail
      exact ⟨⟨2, by omega, rfl, rfl, trivial⟩, by simp [intOf]⟩
    · go_wp2_with fail
      exact ⟨⟨3, by omega, rfl, rfl, trivial⟩, by simp [intOf]⟩
    · go_wp2_with fail
      exact ⟨⟨4, by omega, rfl, rfl, trivial⟩, by simp [intOf]⟩
    · go_wp2_with fail
      refine (HJ.out _).mono ?_
      rintro e w3 ⟨rfl, rfl⟩
      go_wp2_with fail
      go_ret
      exact ⟨rfl, B2.out⟩
theorem builder_fresh (w : World) : Lib.IsBuilder 147 5 w.heap.size w.heap.size [] (w.alloc (.cells #[.pointer none, .slice none 0 0] 147)) :=
  .inl ⟨Nat.le_refl _, .slice none 0 0, heap_alloc_new w _, own_nil _ _ _ _, by simp [Value.ownBlock]⟩
set_option maxRecDepth 100000 in
theorem sixtyPut_none (w : World) : Calls Tryz.prog 53 #[.string ⟨#[]⟩] w fun e w' => e = .returned (.string ⟨#[]⟩) ∧ Below w.heap.size w w' := by
  have HS := Aside0.mk (Tryz.Builder_String_empty w.heap.size w.heap.size _ (builder_fresh w) (by simp))
  have HB := Aside0.mk (below_alloc (Below.refl w.heap.size w) (.cells #[.pointer none, .slice none 0 0] 147))
  go_enter Tryz.func53, Tryz.ntmps53
  go_wp2_with fail
  go_loopw [0] (fun v wr => v = .string ⟨#[]⟩ ∧ wr = w.alloc (.cells #[.pointer none, .slice none 0 0] 147)) (fun _ _ => 0)
  case atStart => exact ⟨rfl, rfl⟩
  case round =>
    obtain ⟨rfl, rfl⟩ := hrel
    go_wp2_with fail
    refine HS.out.mono ?_
    rintro e w1 ⟨rfl, hb⟩
    go_wp2_with fail
    go_ret
    exact ⟨rfl, HB.out.trans hb⟩
set_option maxRecDepth 100000 in
theorem recJoin_nil (w : World) : Calls Tryz.prog 69 #[.slice none 0 0] w fun e w' => e = .returned (.string ⟨#[]⟩) ∧ Below w.heap.size w w' := by
  have HS := Aside0.mk (Tryz.Builder_String_empty w.heap.size w.heap.size _ (builder_fresh w) (by simp))
  have HB := Aside0.mk (below_alloc (Below.refl w.heap.size w) (.cells #[.pointer none, .slice none 0 0] 147))
  go_enter Tryz.func69, Tryz.ntmps69
  go_wp2_with fail
  go_loopw [8] (fun v wr => v = .int .i64 0 ∧ wr = w.alloc (.cells #[.pointer none, .slice none 0 0] 147)) (fun _ _ => 0)
  case atStart => exact ⟨rfl, rfl⟩
  case round =>
    obtain ⟨rfl, rfl⟩ := hrel
    go_wp2_with fail
    refine HS.out.mono ?_
    rintro e w1 ⟨rfl, hb⟩
    go_wp2_with fail
    go_ret
    exact ⟨rfl, HB.out.trans hb⟩
set_option maxRecDepth 100000 in
theorem xattrRecs_nil (w : World) : Calls Tryz.prog 55 #[.slice none 0 0] w fun e w' => e = .returned (.slice none 0 0) ∧ Below w.heap.size w w' := by
  have HM := Aside0.mk (xattrMay_nil w)
  go_enter Tryz.func55, Tryz.ntmps55
  go_wp2_with fail
  refine HM.out.mono ?_
  rintro e w1 ⟨rfl, hb1⟩
  have B1 := Aside0.mk hb1
  clear hb1
  go_wp2_with fail
  go_loopw [3, 11] (fun o v wr => o = .slice none 0 0 ∧ v = .int .i64 0 ∧ wr = w1) (fun _ _ _ => 0)
  case atStart => exact ⟨rfl, rfl, rfl⟩
  case round =>
    obtain ⟨rfl, rfl, rfl⟩ := hrel
    go_wp2_with fail
    go_ret
    exact ⟨rfl, B1.out⟩
theorem add_not (p : Nat) (k v : ByteArray) (w : World) : Calls Tryz.prog 46 #[.pointer (some ⟨p, 0, none⟩), .bool false, .string k, .string v] w fun e w' => e = .returned (.tuple #[]) ∧ w' = w := by
  go_enter Tryz.func46, Tryz.ntmps46
  go_wp2_with fail
  go_end0
  exact ⟨rfl, rfl⟩
theorem long_any (s : List UInt8) (hs : s.length ≤ 100000) (w : World) : Calls Tryz.prog 45 #[.string (mkS s)] w fun e w' => e = .returned (.bool (!(H.splitT s).2.2)) ∧ Below w.heap.size w w' := by
  have HS := Aside0.mk (H.split_any s w (by omega))
  unfold H.splitV at HS
  generalize (H.splitT s).1 = a at *
  generalize (H.splitT s).2.1 = b at *
  generalize (H.splitT s).2.2 = c at *
  cases c
  all_goals
    go_enter Tryz.func45, Tryz.ntmps45
    go_wp2_with fail
    refine HS.out.mono ?_
    rintro e w1 ⟨rfl, hb⟩
    go_wp2_with fail
    go_ret
    exact ⟨rfl, hb⟩
end Go.Proofs.YtbjbnipjeehaoaaGreatDoor
namespace Go.Proofs.YtbjbnipjeehaoaaGreatDoor.H
open Go.RowKit Go.Proofs.YtbjbnipjeehaoaaGreatDoorW.PrintWords
/-- The map at r holds just the entries of L: a string's bytes, a number. -/
structure Holds (W : World) (r : Nat) (L : List (List UInt8 × Int)) : Prop where
  ex : ∃ es clock, W.heap[r]? = some (.map es clock) ∧ es.toList.map (fun x => (x.key, x.val)) = L.map (fun t => (Value.string (mkS t.1), Value.int .i64 t.2)) ∧ MapKept.Stamped es clock
theorem holds_new (W : World) : Holds (W.alloc (.map #[] 0)) W.heap.size [] :=
  ⟨#[], 0, heap_alloc_new W _, rfl, MapKept.stamped_empty 0⟩
/-- A key that is not there yet. -/
theorem holds_insert {W : World} {r : Nat} {L : List (List UInt8 × Int)} (h : Holds W r L) (s : List UInt8) (n : Int) (hs : ∀ t ∈ L, t.1 ≠ s) :
    ∃ W', (Instr.mapUpdate 207 (.map (some r)) (.string (mkS s)) (.int .i64 n)).run Tryz.prog W = .ok () W' ∧ Holds W' r (L ++ [(s, n)]) ∧ (∀ base, base ≤ r → Below base W W') := by
  obtain ⟨es, clock, hb, hL, hst⟩ := h.ex
  have hks : ∀ x ∈ es.toList, ∃ t ∈ L, x.key = .string (mkS t.1) := by
    intro x hx
    have : (x.key, x.val) ∈ es.toList.map (fun x => (x.key, x.val)) := List.mem_map.2 ⟨x, hx, rfl⟩
    rw [hL] at this
    obtain ⟨t, ht, he⟩ := List.mem_map.1 this
    exact ⟨t, ht, (congrArg Prod.fst he).symm⟩
  have hu := Tryz.underlying207
  have hd := Tryz.underlying9
  have hk : MapKept.IsKey .string (.string (mkS s)) := by simp [MapKept.IsKey]
  have hkk : ∀ x ∈ es.toList, MapKept.IsKey .string x.key := by
    intro x hx
    obtain ⟨t, _, he⟩ := hks x hx
    rw [he]; simp [MapKept.IsKey]
  rcases MapKept.findNow_spec hk es.toList 0 hkk with ⟨h1, h2⟩ | ⟨j, e, h1, h2, h3⟩
  · refine ⟨_, by simp [Instr.mapUpdate, run_underlying hu, MapKept.run_getObj_map hb, MapKept.run_checkKey hd hk, MapKept.run_findKey hd h1, MapKept.run_setObj_map _ hb, Result.andThen]; rfl, ⟨_, _, (MapKept.heap_set hb).1, ?_, MapKept.stamped_push hst h2⟩, ?_⟩
    · simp [hL]
    · intro base hbase
      exact ⟨rfl, rfl, rfl, by simp, fun k hk => by rw [Array.getElem?_setIfInBounds_ne (by omega)]⟩
  · exfalso
    have hm : e ∈ es.toList := by
      have : es.toList[j]? = some e := by simpa using h2
      exact List.mem_of_getElem? this
    obtain ⟨t, ht, he⟩ := hks e hm
    rw [h3] at he
    exact hs t ht (mkS_inj.1 (Value.string.inj he)).symm
end Go.Proofs.YtbjbnipjeehaoaaGreatDoor.H
namespace Go.Proofs.YtbjbnipjeehaoaaGreatDoor.H
open Go.RowKit Go.Proofs.YtbjbnipjeehaoaaGreatDoorW.PrintWords
/-- What texts makes. -/
def textEntries (h : Hd) : List (List UInt8 × Int) := [(110 :: h.name, 100), (108 :: h.link, 100), (117 :: h.uname, 32), (103 :: h.gname, 32), (112 :: h.pre, 155)]
/-- How many are not yet done. -/
def cnt (b1 b2 b3 b4 b5 : Bool) : Nat := (!b1).toNat + (!b2).toNat + (!b3).toNat + (!b4).toNat + (!b5).toNat
/-- The operations that have come up. -/
def maskOf (b1 b2 b3 b4 b5 : Bool) : Array Bool := #[true, true, true, true, b1, true, true, true, b2, true, true, true, b3, true, true, true, b4, true, true, true, b5, false, false]
theorem apply_key {P : Program} {md : Region.Mode} {ops : Array Oper} {Q : Exit → Act → World → Prop} {S : World → Prop} {a : Act} {fuel : Nat} {listed : Array Bool} {w1 : World} (J : Bool → Bool → Bool → Bool → Bool → World → Prop)
    (hl : listed = maskOf false false false false false) (hf : fuel = 7) (h0 : J false false false false false w1)
    (step : ∀ b1 b2 b3 b4 b5 W, J b1 b2 b3 b4 b5 W → (∀ c1 c2 c3 c4 c5 W', cnt c1 c2 c3 c4 c5 < cnt b1 b2 b3 b4 b5 → J c1 c2 c3 c4 c5 W' → wpAnyH P md ops Q S (cnt c1 c2 c3 c4 c5 + 2) (maskOf c1 c2 c3 c4 c5) a W') → wpAnyH P md ops Q S (cnt b1 b2 b3 b4 b5 + 2) (maskOf b1 b2 b3 b4 b5) a W) :
    wpAnyH P md ops Q S fuel listed a w1 := by
  have key : ∀ n b1 b2 b3 b4 b5 W, cnt b1 b2 b3 b4 b5 = n → J b1 b2 b3 b4 b5 W → wpAnyH P md ops Q S (cnt b1 b2 b3 b4 b5 + 2) (maskOf b1 b2 b3 b4 b5) a W := by
    intro n
    induction n using Nat.strongRecOn with
    | ind n ih =>
      intro b1 b2 b3 b4 b5 W hc hJ
      exact step b1 b2 b3 b4 b5 W hJ (fun c1 c2 c3 c4 c5 W' hlt hJ' => ih _ (by omega) c1 c2 c3 c4 c5 W' rfl hJ')
  rw [hl, hf]
  exact key 5 false false false false false w1 rfl h0
/-- The entries that are done. -/
def ents (h : Hd) (b1 b2 b3 b4 b5 : Bool) : List (List UInt8 × Int) :=
  (if b1 then [(110 :: h.name, 100)] else []) ++ (if b2 then [(108 :: h.link, 100)] else []) ++ (if b3 then [(117 :: h.uname, 32)] else []) ++ (if b4 then [(103 :: h.gname, 32)] else []) ++ (if b5 then [(112 :: h.pre, 155)] else [])
set_option maxHeartbeats 40000000 in
set_option maxRecDepth 100000 in
theorem texts_any (h : Hd) (w : World) (hf : Fits h) :
    Calls Tryz.prog 196 #[.agg (hdCells h)] w fun e w' => ∃ g L, e = .returned (.map (some g)) ∧ Holds w' g L ∧ (∀ t, t ∈ L ↔ t ∈ textEntries h) ∧ w.heap.size ≤ g ∧ Below w.heap.size w w' := by
  have HB0 := Aside0.mk (below_alloc (Below.refl w.heap.size w) (.cells (hdCells h) 41))
  have g0 := heap_alloc_new w (.cells (hdCells h) 41)
  obtain ⟨w0, hw0⟩ : ∃ x, x = w.alloc (.cells (hdCells h) 41) := ⟨_, rfl⟩
  have hle : w.heap.size ≤ w0.heap.size := by rw [hw0]; simp
  rw [← hw0] at HB0 g0
  obtain ⟨name, mode, uid, gid, size, mtime, typ, link, uname, gname, major, minor, pre⟩ := h
  obtain ⟨hi, h1, h2, h3, h4, h5⟩ := hf
  simp only at h1 h2 h3 h4 h5
  unfold hdCells at hw0 g0 ⊢
  simp only at hw0 g0 ⊢
  have a1 := fun W => str_add (P := Tryz.prog) (s := ⟨#[110]⟩) (t := mkS name) (a := [110]) (b := name) rfl rfl rfl (by simp; omega) W
  have a2 := fun W => str_add (P := Tryz.prog) (s := ⟨#[108]⟩) (t := mkS link) (a := [108]) (b := link) rfl rfl rfl (by simp; omega) W
  have a3 := fun W => str_add (P := Tryz.prog) (s := ⟨#[117]⟩) (t := mkS uname) (a := [117]) (b := uname) rfl rfl rfl (by simp; omega) W
  have a4 := fun W => str_add (P := Tryz.prog) (s := ⟨#[103]⟩) (t := mkS gname) (a := [103]) (b := gname) rfl rfl rfl (by simp; omega) W
  have a5 := fun W => str_add (P := Tryz.prog) (s := ⟨#[112]⟩) (t := mkS pre) (a := [112]) (b := pre) rfl rfl rfl (by simp; omega) W
  go_enter Tryz.func196, Tryz.ntmps196
  go_wp2_with fail
  rw [← hw0]
  clear hw0
  have c0 := blk_cell g0 0
  have c7 := blk_cell g0 7
  have c8 := blk_cell g0 8
  have c9 := blk_cell g0 9
  have c12 := blk_cell g0 12
  refine wp_region_noPanic ?_
  refine wp_region_held_drew (S := fun W => W.cell? ⟨w.heap.size, 0, none⟩ = some (.string (mkS name)) ∧ W.cell? ⟨w.heap.size, 7, none⟩ = some (.string (mkS link)) ∧ W.cell? ⟨w.heap.size, 8, none⟩ = some (.string (mkS uname)) ∧ W.cell? ⟨w.heap.size, 9, none⟩ = some (.string (mkS gname)) ∧ W.cell? ⟨w.heap.size, 12, none⟩ = some (.string (mkS pre))) (by kernel_rfl) ⟨c0, c7, c8, c9, c12⟩ (fun hHeld => ?_)
  refine wpAnyH_take (i := 1) (oi := _) (v := ?_) rfl (by kernel_rfl) (by kernel_rfl) (by kernel_rfl) (fun _ _ _ h => h) (Or.inl ⟨by rfl, ?_⟩) (by assumption) ?_
  rotate_left
  · (intro w hSw; (try dsimp only at hSw); go_simp)
    try with_reducible rfl
  try simp only [Act.put, List.setIfInBounds_toArray, List.set_cons_zero, List.set_cons_succ]
  refine wpAnyH_take (i := 2) (oi := _) (v := ?_) rfl (by kernel_rfl) (by kernel_rfl) (by kernel_rfl) (fun _ _ _ h => h) (Or.inl ⟨by rfl, ?_⟩) (by assumption) ?_
  rotate_left
  · (intro w hSw; (try dsimp only at hSw); go_simp)
    try with_reducible rfl
  try simp only [Act.put, List.setIfInBounds_toArray, List.set_cons_zero, List.set_cons_succ]
  refine wpAnyH_take (i := 3) (oi := _) (v := ?_) rfl (by kernel_rfl) (by kernel_rfl) (by kernel_rfl) (fun _ _ _ h => h) (Or.inl ⟨by rfl, ?_⟩) (by assumption) ?_
  rotate_left
  · (intro w hSw; (try dsimp only at hSw); go_simp)
    try with_reducible rfl
  try simp only [Act.put, List.setIfInBounds_toArray, List.set_cons_zero, List.set_cons_succ]
  refine wpAnyH_take (i := 5) (oi := _) (v := ?_) rfl (by kernel_rfl) (by kernel_rfl) (by kernel_rfl) (fun _ _ _ h => h) (Or.inl ⟨by rfl, ?_⟩) (by assumption) ?_
  rotate_left
  · (intro w hSw; (try dsimp only at hSw); go_simp)
    try with_reducible rfl
  try simp only [Act.put, List.setIfInBounds_toArray, List.set_cons_zero, List.set_cons_succ]
  refine wpAnyH_take (i := 6) (oi := _) (v := ?_) rfl (by kernel_rfl) (by kernel_rfl) (by kernel_rfl) (fun _ _ _ h => h) (Or.inl ⟨by rfl, ?_⟩) (by assumption) ?_
  rotate_left
  · (intro w hSw; (try dsimp only at hSw); go_simp)
    try with_reducible rfl
  try simp only [Act.put, List.setIfInBounds_toArray, List.set_cons_zero, List.set_cons_succ]
  refine wpAnyH_take (i := 7) (oi := _) (v := ?_) rfl (by kernel_rfl) (by kernel_rfl) (by kernel_rfl) (fun _ _ _ h => h) (Or.inl ⟨by rfl, ?_⟩) (by assumption) ?_
  rotate_left
  · (intro w hSw; (try dsimp only at hSw); go_simp)
    try with_reducible rfl
  try simp only [Act.put, List.setIfInBounds_toArray, List.set_cons_zero, List.set_cons_succ]
  refine wpAnyH_take (i := 9) (oi := _) (v := ?_) rfl (by kernel_rfl) (by kernel_rfl) (by kernel_rfl) (fun _ _ _ h => h) (Or.inl ⟨by rfl, ?_⟩) (by assumption) ?_
  rotate_left
  · (intro w hSw; (try dsimp only at hSw); go_simp)
    try with_reducible rfl
  try simp only [Act.put, List.setIfInBounds_toArray, List.set_cons_zero, List.set_cons_succ]
  refine wpAnyH_take (i := 10) (oi := _) (v := ?_) rfl (by kernel_rfl) (by kernel_rfl) (by kernel_rfl) (fun _ _ _ h => h) (Or.inl ⟨by rfl, ?_⟩) (by assumption) ?_
  rotate_left
  · (intro w hSw; (try dsimp only at hSw); go_simp)
    try with_reducible rfl
  try simp only [Act.put, List.setIfInBounds_toArray, List.set_cons_zero, List.set_cons_succ]
  refine wpAnyH_take (i := 11) (oi := _) (v := ?_) rfl (by kernel_rfl) (by kernel_rfl) (by kernel_rfl) (fun _ _ _ h => h) (Or.inl ⟨by rfl, ?_⟩) (by assumption) ?_
  rotate_left
  · (intro w hSw; (try dsimp only at hSw); go_simp)
    try with_reducible rfl
  try simp only [Act.put, List.setIfInBounds_toArray, List.set_cons_zero, List.set_cons_succ]
  refine wpAnyH_take (i := 13) (oi := _) (v := ?_) rfl (by kernel_rfl) (by kernel_rfl) (by kernel_rfl) (fun _ _ _ h => h) (Or.inl ⟨by rfl, ?_⟩) (by assumption) ?_
  rotate_left
  · (intro w hSw; (try dsimp only at hSw); go_simp)
    try with_reducible rfl
  try simp only [Act.put, List.setIfInBounds_toArray, List.set_cons_zero, List.set_cons_succ]
  refine wpAnyH_take (i := 14) (oi := _) (v := ?_) rfl (by kernel_rfl) (by kernel_rfl) (by kernel_rfl) (fun _ _ _ h => h) (Or.inl ⟨by rfl, ?_⟩) (by assumption) ?_
  rotate_left
  · (intro w hSw; (try dsimp only at hSw); go_simp)
    try with_reducible rfl
  try simp only [Act.put, List.setIfInBounds_toArray, List.set_cons_zero, List.set_cons_succ]
  refine wpAnyH_take (i := 15) (oi := _) (v := ?_) rfl (by kernel_rfl) (by kernel_rfl) (by kernel_rfl) (fun _ _ _ h => h) (Or.inl ⟨by rfl, ?_⟩) (by assumption) ?_
  rotate_left
  · (intro w hSw; (try dsimp only at hSw); go_simp)
    try with_reducible rfl
  try simp only [Act.put, List.setIfInBounds_toArray, List.set_cons_zero, List.set_cons_succ]
  refine wpAnyH_take (i := 17) (oi := _) (v := ?_) rfl (by kernel_rfl) (by kernel_rfl) (by kernel_rfl) (fun _ _ _ h => h) (Or.inl ⟨by rfl, ?_⟩) (by assumption) ?_
  rotate_left
  · (intro w hSw; (try dsimp only at hSw); go_simp)
    try with_reducible rfl
  try simp only [Act.put, List.setIfInBounds_toArray, List.set_cons_zero, List.set_cons_succ]
  refine wpAnyH_take (i := 18) (oi := _) (v := ?_) rfl (by kernel_rfl) (by kernel_rfl) (by kernel_rfl) (fun _ _ _ h => h) (Or.inl ⟨by rfl, ?_⟩) (by assumption) ?_
  rotate_left
  · (intro w hSw; (try dsimp only at hSw); go_simp)
    try with_reducible rfl
  try simp only [Act.put, List.setIfInBounds_toArray, List.set_cons_zero, List.set_cons_succ]
  refine wpAnyH_take (i := 19) (oi := _) (v := ?_) rfl (by kernel_rfl) (by kernel_rfl) (by kernel_rfl) (fun _ _ _ h => h) (Or.inl ⟨by rfl, ?_⟩) (by assumption) ?_
  rotate_left
  · (intro w hSw; (try dsimp only at hSw); go_simp)
    try with_reducible rfl
  try simp only [Act.put, List.setIfInBounds_toArray, List.set_cons_zero, List.set_cons_succ]
  refine wpAnyH_ready (rs := [0]) (by kernel_rfl) (by simp) ?_
  refine AllReadyH.cons (o := _) rfl (fun K hK => ?_) AllReadyH.nil
  rw [if_pos (by rfl)]
  go_simp
  rw [run_makeMap_plain]
  simp only [Result.andThen, Oper.upon]
  obtain ⟨w1, hw1⟩ : ∃ x, x = w0.drew.alloc (.map #[] 0) := ⟨_, rfl⟩
  have hr : w0.drew.heap.size = w0.heap.size := rfl
  have H1 : Holds w1 w0.heap.size [] := by rw [hw1]; exact holds_new w0.drew
  have B1 : Below w0.heap.size w0 w1 := by rw [hw1]; exact below_alloc (below_drew (Below.refl _ _)) _
  have HS : ∀ W', Below w0.heap.size w0 W' → W'.cell? ⟨w.heap.size, 0, none⟩ = some (.string (mkS name)) ∧ W'.cell? ⟨w.heap.size, 7, none⟩ = some (.string (mkS link)) ∧ W'.cell? ⟨w.heap.size, 8, none⟩ = some (.string (mkS uname)) ∧ W'.cell? ⟨w.heap.size, 9, none⟩ = some (.string (mkS gname)) ∧ W'.cell? ⟨w.heap.size, 12, none⟩ = some (.string (mkS pre)) := by
    intro W' hb
    exact ⟨(hb.cell (p := ⟨_, 0, none⟩) (blk_lt g0)).trans c0, (hb.cell (p := ⟨_, 7, none⟩) (blk_lt g0)).trans c7, (hb.cell (p := ⟨_, 8, none⟩) (blk_lt g0)).trans c8, (hb.cell (p := ⟨_, 9, none⟩) (blk_lt g0)).trans c9, (hb.cell (p := ⟨_, 12, none⟩) (blk_lt g0)).trans c12⟩
  rw [hr, ← hw1]
  refine hK.out _ _ (HS _ B1) (fun hS => ?_)
  clear hK K
  simp only [Act.put, List.setIfInBounds_toArray, List.set_cons_zero, List.set_cons_succ]
  refine apply_key (fun b1 b2 b3 b4 b5 W => ∃ L, Holds W w0.heap.size L ∧ (∀ t, t ∈ L ↔ t ∈ ents ⟨name, mode, uid, gid, size, mtime, typ, link, uname, gname, major, minor, pre⟩ b1 b2 b3 b4 b5) ∧ Below w0.heap.size w0 W) (by kernel_rfl) (by kernel_rfl) ⟨[], H1, fun t => by simp [ents], B1⟩ ?_
  intro b1 b2 b3 b4 b5 W hJ IH
  obtain ⟨L, hL, hm, hb⟩ := hJ
  cases b1 <;> cases b2 <;> cases b3 <;> cases b4 <;> cases b5
  · refine wpAnyH_ready (rs := [4, 8, 12, 16, 20]) (by kernel_rfl) (by simp) ?_
    refine AllReadyH.cons (o := _) rfl (fun K hK => ?_) ?_
    · rw [if_pos (by rfl)]
      have FR : ∀ t ∈ ents ⟨name, mode, uid, gid, size, mtime, typ, link, uname, gname, major, minor, pre⟩ false false false false false, t.1 ≠ 110 :: name := by simp [ents]
      obtain ⟨W', hrun, hH, hB⟩ := holds_insert hL (110 :: name) 100 (fun t ht => FR t ((hm t).1 ht))
      have hBW := hb.trans (hB w0.heap.size (Nat.le_refl _))
      go_simp
      refine hK.out _ _ (HS _ hBW) (fun _ => IH true false false false false W' (by decide) ⟨_, hH, fun t => by rw [List.mem_append, hm t]; simp [ents]; try (refine iff_of_eq ?_; ac_rfl), hBW⟩)
    refine AllReadyH.cons (o := _) rfl (fun K hK => ?_) ?_
    · rw [if_pos (by rfl)]
      have FR : ∀ t ∈ ents ⟨name, mode, uid, gid, size, mtime, typ, link, uname, gname, major, minor, pre⟩ false false false false false, t.1 ≠ 108 :: link := by simp [ents]
      obtain ⟨W', hrun, hH, hB⟩ := holds_insert hL (108 :: link) 100 (fun t ht => FR t ((hm t).1 ht))
      have hBW := hb.trans (hB w0.heap.size (Nat.le_refl _))
      go_simp
      refine hK.out _ _ (HS _ hBW) (fun _ => IH false true false false false W' (by decide) ⟨_, hH, fun t => by rw [List.mem_append, hm t]; simp [ents]; try (refine iff_of_eq ?_; ac_rfl), hBW⟩)
    refine AllReadyH.cons (o := _) rfl (fun K hK => ?_) ?_
    · rw [if_pos (by rfl)]
      have FR : ∀ t ∈ ents ⟨name, mode, uid, gid, size, mtime, typ, link, uname, gname, major, minor, pre⟩ false false false false false, t.1 ≠ 117 :: uname := by simp [ents]
      obtain ⟨W', hrun, hH, hB⟩ := holds_insert hL (117 :: uname) 32 (fun t ht => FR t ((hm t).1 ht))
      have hBW := hb.trans (hB w0.heap.size (Nat.le_refl _))
      go_simp
      refine hK.out _ _ (HS _ hBW) (fun _ => IH false false true false false W' (by decide) ⟨_, hH, fun t => by rw [List.mem_append, hm t]; simp [ents]; try (refine iff_of_eq ?_; ac_rfl), hBW⟩)
    refine AllReadyH.cons (o := _) rfl (fun K hK => ?_) ?_
    · rw [if_pos (by rfl)]
      have FR : ∀ t ∈ ents ⟨name, mode, uid, gid, size, mtime, typ, link, uname, gname, major, minor, pre⟩ false false false false false, t.1 ≠ 103 :: gname := by simp [ents]
      obtain ⟨W', hrun, hH, hB⟩ := holds_insert hL (103 :: gname) 32 (fun t ht => FR t ((hm t).1 ht))
      have hBW := hb.trans (hB w0.heap.size (Nat.le_refl _))
      go_simp
      refine hK.out _ _ (HS _ hBW) (fun _ => IH false false false true false W' (by decide) ⟨_, hH, fun t => by rw [List.mem_append, hm t]; simp [ents]; try (refine iff_of_eq ?_; ac_rfl), hBW⟩)
    refine AllReadyH.cons (o := _) rfl (fun K hK => ?_) ?_
    · rw [if_pos (by rfl)]
      have FR : ∀ t ∈ ents ⟨name, mode, uid, gid, size, mtime, typ, link, uname, gname, major, minor, pre⟩ false false false false false, t.1 ≠ 112 :: pre := by simp [ents]
      obtain ⟨W', hrun, hH, hB⟩ := holds_insert hL (112 :: pre) 155 (fun t ht => FR t ((hm t).1 ht))
      have hBW := hb.trans (hB w0.heap.size (Nat.le_refl _))
      go_simp
      refine hK.out _ _ (HS _ hBW) (fun _ => IH false false false false true W' (by decide) ⟨_, hH, fun t => by rw [List.mem_append, hm t]; simp [ents]; try (refine iff_of_eq ?_; ac_rfl), hBW⟩)
    exact AllReadyH.nil
  · refine wpAnyH_ready (rs := [4, 8, 12, 16]) (by kernel_rfl) (by simp) ?_
    refine AllReadyH.cons (o := _) rfl (fun K hK => ?_) ?_
    · rw [if_pos (by rfl)]
      have FR : ∀ t ∈ ents ⟨name, mode, uid, gid, size, mtime, typ, link, uname, gname, major, minor, pre⟩ false false false false true, t.1 ≠ 110 :: name := by simp [ents]
      obtain ⟨W', hrun, hH, hB⟩ := holds_insert hL (110 :: name) 100 (fun t ht => FR t ((hm t).1 ht))
      have hBW := hb.trans (hB w0.heap.size (Nat.le_refl _))
      go_simp
      refine hK.out _ _ (HS _ hBW) (fun _ => IH true false false false true W' (by decide) ⟨_, hH, fun t => by rw [List.mem_append, hm t]; simp [ents]; try (refine iff_of_eq ?_; ac_rfl), hBW⟩)
    refine AllReadyH.cons (o := _) rfl (fun K hK => ?_) ?_
    · rw [if_pos (by rfl)]
      have FR : ∀ t ∈ ents ⟨name, mode, uid, gid, size, mtime, typ, link, uname, gname, major, minor, pre⟩ false false false false true, t.1 ≠ 108 :: link := by simp [ents]
      obtain ⟨W', hrun, hH, hB⟩ := holds_insert hL (108 :: link) 100 (fun t ht => FR t ((hm t).1 ht))
      have hBW := hb.trans (hB w0.heap.size (Nat.le_refl _))
      go_simp
      refine hK.out _ _ (HS _ hBW) (fun _ => IH false true false false true W' (by decide) ⟨_, hH, fun t => by rw [List.mem_append, hm t]; simp [ents]; try (refine iff_of_eq ?_; ac_rfl), hBW⟩)
    refine AllReadyH.cons (o := _) rfl (fun K hK => ?_) ?_
    · rw [if_pos (by rfl)]
      have FR : ∀ t ∈ ents ⟨name, mode, uid, gid, size, mtime, typ, link, uname, gname, major, minor, pre⟩ false false false false true, t.1 ≠ 117 :: uname := by simp [ents]
      obtain ⟨W', hrun, hH, hB⟩ := holds_insert hL (117 :: uname) 32 (fun t ht => FR t ((hm t).1 ht))
      have hBW := hb.trans (hB w0.heap.size (Nat.le_refl _))
      go_simp
      refine hK.out _ _ (HS _ hBW) (fun _ => IH false false true false true W' (by decide) ⟨_, hH, fun t => by rw [List.mem_append, hm t]; simp [ents]; try (refine iff_of_eq ?_; ac_rfl), hBW⟩)
    refine AllReadyH.cons (o := _) rfl (fun K hK => ?_) ?_
    · rw [if_pos (by rfl)]
      have FR : ∀ t ∈ ents ⟨name, mode, uid, gid, size, mtime, typ, link, uname, gname, major, minor, pre⟩ false false false false true, t.1 ≠ 103 :: gname := by simp [ents]
      obtain ⟨W', hrun, hH, hB⟩ := holds_insert hL (103 :: gname) 32 (fun t ht => FR t ((hm t).1 ht))
      have hBW := hb.trans (hB w0.heap.size (Nat.le_refl _))
      go_simp
      refine hK.out _ _ (HS _ hBW) (fun _ => IH false false false true true W' (by decide) ⟨_, hH, fun t => by rw [List.mem_append, hm t]; simp [ents]; try (refine iff_of_eq ?_; ac_rfl), hBW⟩)
    exact AllReadyH.nil
  · refine wpAnyH_ready (rs := [4, 8, 12, 20]) (by kernel_rfl) (by simp) ?_
    refine AllReadyH.cons (o := _) rfl (fun K hK => ?_) ?_
    · rw [if_pos (by rfl)]
      have FR : ∀ t ∈ ents ⟨name, mode, uid, gid, size, mtime, typ, link, uname, gname, major, minor, pre⟩ false false false true false, t.1 ≠ 110 :: name := by simp [ents]
      obtain ⟨W', hrun, hH, hB⟩ := holds_insert hL (110 :: name) 100 (fun t ht => FR t ((hm t).1 ht))
      have hBW := hb.trans (hB w0.heap.size (Nat.le_refl _))
      go_simp
      refine hK.out _ _ (HS _ hBW) (fun _ => IH true false false true false W' (by decide) ⟨_, hH, fun t => by rw [List.mem_append, hm t]; simp [ents]; try (refine iff_of_eq ?_; ac_rfl), hBW⟩)
    refine AllReadyH.cons (o := _) rfl (fun K hK => ?_) ?_
    · rw [if_pos (by rfl)]
      have FR : ∀ t ∈ ents ⟨name, mode, uid, gid, size, mtime, typ, link, uname, gname, major, minor, pre⟩ false false false true false, t.1 ≠ 108 :: link := by simp [ents]
      obtain ⟨W', hrun, hH, hB⟩ := holds_insert hL (108 :: link) 100 (fun t ht => FR t ((hm t).1 ht))
      have hBW := hb.trans (hB w0.heap.size (Nat.le_refl _))
      go_simp
      refine hK.out _ _ (HS _ hBW) (fun _ => IH false true false true false W' (by decide) ⟨_, hH, fun t => by rw [List.mem_append, hm t]; simp [ents]; try (refine iff_of_eq ?_; ac_rfl), hBW⟩)
    refine AllReadyH.cons (o := _) rfl (fun K hK => ?_) ?_
    · rw [if_pos (by rfl)]
      have FR : ∀ t ∈ ents ⟨name, mode, uid, gid, size, mtime, typ, link, uname, gname, major, minor, pre⟩ false false false true false, t.1 ≠ 117 :: uname := by simp [ents]
      obtain ⟨W', hrun, hH, hB⟩ := holds_insert hL (117 :: uname) 32 (fun t ht => FR t ((hm t).1 ht))
      have hBW := hb.trans (hB w0.heap.size (Nat.le_refl _))
      go_simp
      refine hK.out _ _ (HS _ hBW) (fun _ => IH false false true true false W' (by decide) ⟨_, hH, fun t => by rw [List.mem_append, hm t]; simp [ents]; try (refine iff_of_eq ?_; ac_rfl), hBW⟩)
    refine AllReadyH.cons (o := _) rfl (fun K hK => ?_) ?_
    · rw [if_pos (by rfl)]
      have FR : ∀ t ∈ ents ⟨name, mode, uid, gid, size, mtime, typ, link, uname, gname, major, minor, pre⟩ false false false true false, t.1 ≠ 112 :: pre := by simp [ents]
      obtain ⟨W', hrun, hH, hB⟩ := holds_insert hL (112 :: pre) 155 (fun t ht => FR t ((hm t).1 ht))
      have hBW := hb.trans (hB w0.heap.size (Nat.le_refl _))
      go_simp
      refine hK.out _ _ (HS _ hBW) (fun _ => IH false false false true true W' (by decide) ⟨_, hH, fun t => by rw [List.mem_append, hm t]; simp [ents]; try (refine iff_of_eq ?_; ac_rfl), hBW⟩)
    exact AllReadyH.nil
  · refine wpAnyH_ready (rs := [4, 8, 12]) (by kernel_rfl) (by simp) ?_
    refine AllReadyH.cons (o := _) rfl (fun K hK => ?_) ?_
    · rw [if_pos (by rfl)]
      have FR : ∀ t ∈ ents ⟨name, mode, uid, gid, size, mtime, typ, link, uname, gname, major, minor, pre⟩ false false false true true, t.1 ≠ 110 :: name := by simp [ents]
      obtain ⟨W', hrun, hH, hB⟩ := holds_insert hL (110 :: name) 100 (fun t ht => FR t ((hm t).1 ht))
      have hBW := hb.trans (hB w0.heap.size (Nat.le_refl _))
      go_simp
      refine hK.out _ _ (HS _ hBW) (fun _ => IH true false false true true W' (by decide) ⟨_, hH, fun t => by rw [List.mem_append, hm t]; simp [ents]; try (refine iff_of_eq ?_; ac_rfl), hBW⟩)
    refine AllReadyH.cons (o := _) rfl (fun K hK => ?_) ?_
    · rw [if_pos (by rfl)]
      have FR : ∀ t ∈ ents ⟨name, mode, uid, gid, size, mtime, typ, link, uname, gname, major, minor, pre⟩ false false false true true, t.1 ≠ 108 :: link := by simp [ents]
      obtain ⟨W', hrun, hH, hB⟩ := holds_insert hL (108 :: link) 100 (fun t ht => FR t ((hm t).1 ht))
      have hBW := hb.trans (hB w0.heap.size (Nat.le_refl _))
      go_simp
      refine hK.out _ _ (HS _ hBW) (fun _ => IH false true false true true W' (by decide) ⟨_, hH, fun t => by rw [List.mem_append, hm t]; simp [ents]; try (refine iff_of_eq ?_; ac_rfl), hBW⟩)
    refine AllReadyH.cons (o := _) rfl (fun K hK => ?_) ?_
    · rw [if_pos (by rfl)]
      have FR : ∀ t ∈ ents ⟨name, mode, uid, gid, size, mtime, typ, link, uname, gname, major, minor, pre⟩ false false false true true, t.1 ≠ 117 :: uname := by simp [ents]
      obtain ⟨W', hrun, hH, hB⟩ := holds_insert hL (117 :: uname) 32 (fun t ht => FR t ((hm t).1 ht))
      have hBW := hb.trans (hB w0.heap.size (Nat.le_refl _))
      go_simp
      refine hK.out _ _ (HS _ hBW) (fun _ => IH false false true true true W' (by decide) ⟨_, hH, fun t => by rw [List.mem_append, hm t]; simp [ents]; try (refine iff_of_eq ?_; ac_rfl), hBW⟩)
    exact AllReadyH.nil
  · refine wpAnyH_ready (rs := [4, 8, 16, 20]) (by kernel_rfl) (by simp) ?_
    refine AllReadyH.cons (o := _) rfl (fun K hK => ?_) ?_
    · rw [if_pos (by rfl)]
      have FR : ∀ t ∈ ents ⟨name, mode, uid, gid, size, mtime, typ, link, uname, gname, major, minor, pre⟩ false false true false false, t.1 ≠ 110 :: name := by simp [ents]
      obtain ⟨W', hrun, hH, hB⟩ := holds_insert hL (110 :: name) 100 (fun t ht => FR t ((hm t).1 ht))
      have hBW := hb.trans (hB w0.heap.size (Nat.le_refl _))
      go_simp
      refine hK.out _ _ (HS _ hBW) (fun _ => IH true false true false false W' (by decide) ⟨_, hH, fun t => by rw [List.mem_append, hm t]; simp [ents]; try (refine iff_of_eq ?_; ac_rfl), hBW⟩)
    refine AllReadyH.cons (o := _) rfl (fun K hK => ?_) ?_
    · rw [if_pos (by rfl)]
      have FR : ∀ t ∈ ents ⟨name, mode, uid, gid, size, mtime, typ, link, uname, gname, major, minor, pre⟩ false false true false false, t.1 ≠ 108 :: link := by simp [ents]
      obtain ⟨W', hrun, hH, hB⟩ := holds_insert hL (108 :: link) 100 (fun t ht => FR t ((hm t).1 ht))
      have hBW := hb.trans (hB w0.heap.size (Nat.le_refl _))
      go_simp
      refine hK.out _ _ (HS _ hBW) (fun _ => IH false true true false false W' (by decide) ⟨_, hH, fun t => by rw [List.mem_append, hm t]; simp [ents]; try (refine iff_of_eq ?_; ac_rfl), hBW⟩)
    refine AllReadyH.cons (o := _) rfl (fun K hK => ?_) ?_
    · rw [if_pos (by rfl)]
      have FR : ∀ t ∈ ents ⟨name, mode, uid, gid, size, mtime, typ, link, uname, gname, major, minor, pre⟩ false false true false false, t.1 ≠ 103 :: gname := by simp [ents]
      obtain ⟨W', hrun, hH, hB⟩ := holds_insert hL (103 :: gname) 32 (fun t ht => FR t ((hm t).1 ht))
      have hBW := hb.trans (hB w0.heap.size (Nat.le_refl _))
      go_simp
      refine hK.out _ _ (HS _ hBW) (fun _ => IH false false true true false W' (by decide) ⟨_, hH, fun t => by rw [List.mem_append, hm t]; simp [ents]; try (refine iff_of_eq ?_; ac_rfl), hBW⟩)
    refine AllReadyH.cons (o := _) rfl (fun K hK => ?_) ?_
    · rw [if_pos (by rfl)]
      have FR : ∀ t ∈ ents ⟨name, mode, uid, gid, size, mtime, typ, link, uname, gname, major, minor, pre⟩ false false true false false, t.1 ≠ 112 :: pre := by simp [ents]
      obtain ⟨W', hrun, hH, hB⟩ := holds_insert hL (112 :: pre) 155 (fun t ht => FR t ((hm t).1 ht))
      have hBW := hb.trans (hB w0.heap.size (Nat.le_refl _))
      go_simp
      refine hK.out _ _ (HS _ hBW) (fun _ => IH false false true false true W' (by decide) ⟨_, hH, fun t => by rw [List.mem_append, hm t]; simp [ents]; try (refine iff_of_eq ?_; ac_rfl), hBW⟩)
    exact AllReadyH.nil
  · refine wpAnyH_ready (rs := [4, 8, 16]) (by kernel_rfl) (by simp) ?_
    refine AllReadyH.cons (o := _) rfl (fun K hK => ?_) ?_
    · rw [if_pos (by rfl)]
      have FR : ∀ t ∈ ents ⟨name, mode, uid, gid, size, mtime, typ, link, uname, gname, major, minor, pre⟩ false false true false true, t.1 ≠ 110 :: name := by simp [ents]
      obtain ⟨W', hrun, hH, hB⟩ := holds_insert hL (110 :: name) 100 (fun t ht => FR t ((hm t).1 ht))
      have hBW := hb.trans (hB w0.heap.size (Nat.le_refl _))
      go_simp
      refine hK.out _ _ (HS _ hBW) (fun _ => IH true false true false true W' (by decide) ⟨_, hH, fun t => by rw [List.mem_append, hm t]; simp [ents]; try (refine iff_of_eq ?_; ac_rfl), hBW⟩)
    refine AllReadyH.cons (o := _) rfl (fun K hK => ?_) ?_
    · rw [if_pos (by rfl)]
      have FR : ∀ t ∈ ents ⟨name, mode, uid, gid, size, mtime, typ, link, uname, gname, major, minor, pre⟩ false false true false true, t.1 ≠ 108 :: link := by simp [ents]
      obtain ⟨W', hrun, hH, hB⟩ := holds_insert hL (108 :: link) 100 (fun t ht => FR t ((hm t).1 ht))
      have hBW := hb.trans (hB w0.heap.size (Nat.le_refl _))
      go_simp
      refine hK.out _ _ (HS _ hBW) (fun _ => IH false true true false true W' (by decide) ⟨_, hH, fun t => by rw [List.mem_append, hm t]; simp [ents]; try (refine iff_of_eq ?_; ac_rfl), hBW⟩)
    refine AllReadyH.cons (o := _) rfl (fun K hK => ?_) ?_
    · rw [if_pos (by rfl)]
      have FR : ∀ t ∈ ents ⟨name, mode, uid, gid, size, mtime, typ, link, uname, gname, major, minor, pre⟩ false false true false true, t.1 ≠ 103 :: gname := by simp [ents]
      obtain ⟨W', hrun, hH, hB⟩ := holds_insert hL (103 :: gname) 32 (fun t ht => FR t ((hm t).1 ht))
      have hBW := hb.trans (hB w0.heap.size (Nat.le_refl _))
      go_simp
      refine hK.out _ _ (HS _ hBW) (fun _ => IH false false true true true W' (by decide) ⟨_, hH, fun t => by rw [List.mem_append, hm t]; simp [ents]; try (refine iff_of_eq ?_; ac_rfl), hBW⟩)
    exact AllReadyH.nil
  · refine wpAnyH_ready (rs := [4, 8, 20]) (by kernel_rfl) (by simp) ?_
    refine AllReadyH.cons (o := _) rfl (fun K hK => ?_) ?_
    · rw [if_pos (by rfl)]
      have FR : ∀ t ∈ ents ⟨name, mode, uid, gid, size, mtime, typ, link, uname, gname, major, minor, pre⟩ false false true true false, t.1 ≠ 110 :: name := by simp [ents]
      obtain ⟨W', hrun, hH, hB⟩ := holds_insert hL (110 :: name) 100 (fun t ht => FR t ((hm t).1 ht))
      have hBW := hb.trans (hB w0.heap.size (Nat.le_refl _))
      go_simp
      refine hK.out _ _ (HS _ hBW) (fun _ => IH true false true true false W' (by decide) ⟨_, hH, fun t => by rw [List.mem_append, hm t]; simp [ents]; try (refine iff_of_eq ?_; ac_rfl), hBW⟩)
    refine AllReadyH.cons (o := _) rfl (fun K hK => ?_) ?_
    · rw [if_pos (by rfl)]
      have FR : ∀ t ∈ ents ⟨name, mode, uid, gid, size, mtime, typ, link, uname, gname, major, minor, pre⟩ false false true true false, t.1 ≠ 108 :: link := by simp [ents]
      obtain ⟨W', hrun, hH, hB⟩ := holds_insert hL (108 :: link) 100 (fun t ht => FR t ((hm t).1 ht))
      have hBW := hb.trans (hB w0.heap.size (Nat.le_refl _))
      go_simp
      refine hK.out _ _ (HS _ hBW) (fun _ => IH false true true true false W' (by decide) ⟨_, hH, fun t => by rw [List.mem_append, hm t]; simp [ents]; try (refine iff_of_eq ?_; ac_rfl), hBW⟩)
    refine AllReadyH.cons (o := _) rfl (fun K hK => ?_) ?_
    · rw [if_pos (by rfl)]
      have FR : ∀ t ∈ ents ⟨name, mode, uid, gid, size, mtime, typ, link, uname, gname, major, minor, pre⟩ false false true true false, t.1 ≠ 112 :: pre := by simp [ents]
      obtain ⟨W', hrun, hH, hB⟩ := holds_insert hL (112 :: pre) 155 (fun t ht => FR t ((hm t).1 ht))
      have hBW := hb.trans (hB w0.heap.size (Nat.le_refl _))
      go_simp
      refine hK.out _ _ (HS _ hBW) (fun _ => IH false false true true true W' (by decide) ⟨_, hH, fun t => by rw [List.mem_append, hm t]; simp [ents]; try (refine iff_of_eq ?_; ac_rfl), hBW⟩)
    exact AllReadyH.nil
  · refine wpAnyH_ready (rs := [4, 8]) (by kernel_rfl) (by simp) ?_
    refine AllReadyH.cons (o := _) rfl (fun K hK => ?_) ?_
    · rw [if_pos (by rfl)]
      have FR : ∀ t ∈ ents ⟨name, mode, uid, gid, size, mtime, typ, link, uname, gname, major, minor, pre⟩ false false true true true, t.1 ≠ 110 :: name := by simp [ents]
      obtain ⟨W', hrun, hH, hB⟩ := holds_insert hL (110 :: name) 100 (fun t ht => FR t ((hm t).1 ht))
      have hBW := hb.trans (hB w0.heap.size (Nat.le_refl _))
      go_simp
      refine hK.out _ _ (HS _ hBW) (fun _ => IH true false true true true W' (by decide) ⟨_, hH, fun t => by rw [List.mem_append, hm t]; simp [ents]; try (refine iff_of_eq ?_; ac_rfl), hBW⟩)
    refine AllReadyH.cons (o := _) rfl (fun K hK => ?_) ?_
    · rw [if_pos (by rfl)]
      have FR : ∀ t ∈ ents ⟨name, mode, uid, gid, size, mtime, typ, link, uname, gname, major, minor, pre⟩ false false true true true, t.1 ≠ 108 :: link := by simp [ents]
      obtain ⟨W', hrun, hH, hB⟩ := holds_insert hL (108 :: link) 100 (fun t ht => FR t ((hm t).1 ht))
      have hBW := hb.trans (hB w0.heap.size (Nat.le_refl _))
      go_simp
      refine hK.out _ _ (HS _ hBW) (fun _ => IH false true true true true W' (by decide) ⟨_, hH, fun t => by rw [List.mem_append, hm t]; simp [ents]; try (refine iff_of_eq ?_; ac_rfl), hBW⟩)
    exact AllReadyH.nil
  · refine wpAnyH_ready (rs := [4, 12, 16, 20]) (by kernel_rfl) (by simp) ?_
    refine AllReadyH.cons (o := _) rfl (fun K hK => ?_) ?_
    · rw [if_pos (by rfl)]
      have FR : ∀ t ∈ ents ⟨name, mode, uid, gid, size, mtime, typ, link, uname, gname, major, minor, pre⟩ false true false false false, t.1 ≠ 110 :: name := by simp [ents]
      obtain ⟨W', hrun, hH, hB⟩ := holds_insert hL (110 :: name) 100 (fun t ht => FR t ((hm t).1 ht))
      have hBW := hb.trans (hB w0.heap.size (Nat.le_refl _))
      go_simp
      refine hK.out _ _ (HS _ hBW) (fun _ => IH true true false false false W' (by decide) ⟨_, hH, fun t => by rw [List.mem_append, hm t]; simp [ents]; try (refine iff_of_eq ?_; ac_rfl), hBW⟩)
    refine AllReadyH.cons (o := _) rfl (fun K hK => ?_) ?_
    · rw [if_pos (by rfl)]
      have FR : ∀ t ∈ ents ⟨name, mode, uid, gid, size, mtime, typ, link, uname, gname, major, minor, pre⟩ false true false false false, t.1 ≠ 117 :: uname := by simp [ents]
      obtain ⟨W', hrun, hH, hB⟩ := holds_insert hL (117 :: uname) 32 (fun t ht => FR t ((hm t).1 ht))
      have hBW := hb.trans (hB w0.heap.size (Nat.le_refl _))
      go_simp
      refine hK.out _ _ (HS _ hBW) (fun _ => IH false true true false false W' (by decide) ⟨_, hH, fun t => by rw [List.mem_append, hm t]; simp [ents]; try (refine iff_of_eq ?_; ac_rfl), hBW⟩)
    refine AllReadyH.cons (o := _) rfl (fun K hK => ?_) ?_
    · rw [if_pos (by rfl)]
      have FR : ∀ t ∈ ents ⟨name, mode, uid, gid, size, mtime, typ, link, uname, gname, major, minor, pre⟩ false true false false false, t.1 ≠ 103 :: gname := by simp [ents]
      obtain ⟨W', hrun, hH, hB⟩ := holds_insert hL (103 :: gname) 32 (fun t ht => FR t ((hm t).1 ht))
      have hBW := hb.trans (hB w0.heap.size (Nat.le_refl _))
      go_simp
      refine hK.out _ _ (HS _ hBW) (fun _ => IH false true false true false W' (by decide) ⟨_, hH, fun t => by rw [List.mem_append, hm t]; simp [ents]; try (refine iff_of_eq ?_; ac_rfl), hBW⟩)
    refine AllReadyH.cons (o := _) rfl (fun K hK => ?_) ?_
    · rw [if_pos (by rfl)]
      have FR : ∀ t ∈ ents ⟨name, mode, uid, gid, size, mtime, typ, link, uname, gname, major, minor, pre⟩ false true false false false, t.1 ≠ 112 :: pre := by simp [ents]
      obtain ⟨W', hrun, hH, hB⟩ := holds_insert hL (112 :: pre) 155 (fun t ht => FR t ((hm t).1 ht))
      have hBW := hb.trans (hB w0.heap.size (Nat.le_refl _))
      go_simp
      refine hK.out _ _ (HS _ hBW) (fun _ => IH false true false false true W' (by decide) ⟨_, hH, fun t => by rw [List.mem_append, hm t]; simp [ents]; try (refine iff_of_eq ?_; ac_rfl), hBW⟩)
    exact AllReadyH.nil
  · refine wpAnyH_ready (rs := [4, 12, 16]) (by kernel_rfl) (by simp) ?_
    refine AllReadyH.cons (o := _) rfl (fun K hK => ?_) ?_
    · rw [if_pos (by rfl)]
      have FR : ∀ t ∈ ents ⟨name, mode, uid, gid, size, mtime, typ, link, uname, gname, major, minor, pre⟩ false true false false true, t.1 ≠ 110 :: name := by simp [ents]
      obtain ⟨W', hrun, hH, hB⟩ := holds_insert hL (110 :: name) 100 (fun t ht => FR t ((hm t).1 ht))
      have hBW := hb.trans (hB w0.heap.size (Nat.le_refl _))
      go_simp
      refine hK.out _ _ (HS _ hBW) (fun _ => IH true true false false true W' (by decide) ⟨_, hH, fun t => by rw [List.mem_append, hm t]; simp [ents]; try (refine iff_of_eq ?_; ac_rfl), hBW⟩)
    refine AllReadyH.cons (o := _) rfl (fun K hK => ?_) ?_
    · rw [if_pos (by rfl)]
      have FR : ∀ t ∈ ents ⟨name, mode, uid, gid, size, mtime, typ, link, uname, gname, major, minor, pre⟩ false true false false true, t.1 ≠ 117 :: uname := by simp [ents]
      obtain ⟨W', hrun, hH, hB⟩ := holds_insert hL (117 :: uname) 32 (fun t ht => FR t ((hm t).1 ht))
      have hBW := hb.trans (hB w0.heap.size (Nat.le_refl _))
      go_simp
      refine hK.out _ _ (HS _ hBW) (fun _ => IH false true true false true W' (by decide) ⟨_, hH, fun t => by rw [List.mem_append, hm t]; simp [ents]; try (refine iff_of_eq ?_; ac_rfl), hBW⟩)
    refine AllReadyH.cons (o := _) rfl (fun K hK => ?_) ?_
    · rw [if_pos (by rfl)]
      have FR : ∀ t ∈ ents ⟨name, mode, uid, gid, size, mtime, typ, link, uname, gname, major, minor, pre⟩ false true false false true, t.1 ≠ 103 :: gname := by simp [ents]
      obtain ⟨W', hrun, hH, hB⟩ := holds_insert hL (103 :: gname) 32 (fun t ht => FR t ((hm t).1 ht))
      have hBW := hb.trans (hB w0.heap.size (Nat.le_refl _))
      go_simp
      refine hK.out _ _ (HS _ hBW) (fun _ => IH false true false true true W' (by decide) ⟨_, hH, fun t => by rw [List.mem_append, hm t]; simp [ents]; try (refine iff_of_eq ?_; ac_rfl), hBW⟩)
    exact AllReadyH.nil
  · refine wpAnyH_ready (rs := [4, 12, 20]) (by kernel_rfl) (by simp) ?_
    refine AllReadyH.cons (o := _) rfl (fun K hK => ?_) ?_
    · rw [if_pos (by rfl)]
      have FR : ∀ t ∈ ents ⟨name, mode, uid, gid, size, mtime, typ, link, uname, gname, major, minor, pre⟩ false true false true false, t.1 ≠ 110 :: name := by simp [ents]
      obtain ⟨W', hrun, hH, hB⟩ := holds_insert hL (110 :: name) 100 (fun t ht => FR t ((hm t).1 ht))
      have hBW := hb.trans (hB w0.heap.size (Nat.le_refl _))
      go_simp
      refine hK.out _ _ (HS _ hBW) (fun _ => IH true true false true false W' (by decide) ⟨_, hH, fun t => by rw [List.mem_append, hm t]; simp [ents]; try (refine iff_of_eq ?_; ac_rfl), hBW⟩)
    refine AllReadyH.cons (o := _) rfl (fun K hK => ?_) ?_
    · rw [if_pos (by rfl)]
      have FR : ∀ t ∈ ents ⟨name, mode, uid, gid, size, mtime, typ, link, uname, gname, major, minor, pre⟩ false true false true false, t.1 ≠ 117 :: uname := by simp [ents]
      obtain ⟨W', hrun, hH, hB⟩ := holds_insert hL (117 :: uname) 32 (fun t ht => FR t ((hm t).1 ht))
      have hBW := hb.trans (hB w0.heap.size (Nat.le_refl _))
      go_simp
      refine hK.out _ _ (HS _ hBW) (fun _ => IH false true true true false W' (by decide) ⟨_, hH, fun t => by rw [List.mem_append, hm t]; simp [ents]; try (refine iff_of_eq ?_; ac_rfl), hBW⟩)
    refine AllReadyH.cons (o := _) rfl (fun K hK => ?_) ?_
    · rw [if_pos (by rfl)]
      have FR : ∀ t ∈ ents ⟨name, mode, uid, gid, size, mtime, typ, link, uname, gname, major, minor, pre⟩ false true false true false, t.1 ≠ 112 :: pre := by simp [ents]
      obtain ⟨W', hrun, hH, hB⟩ := holds_insert hL (112 :: pre) 155 (fun t ht => FR t ((hm t).1 ht))
      have hBW := hb.trans (hB w0.heap.size (Nat.le_refl _))
      go_simp
      refine hK.out _ _ (HS _ hBW) (fun _ => IH false true false true true W' (by decide) ⟨_, hH, fun t => by rw [List.mem_append, hm t]; simp [ents]; try (refine iff_of_eq ?_; ac_rfl), hBW⟩)
    exact AllReadyH.nil
  · refine wpAnyH_ready (rs := [4, 12]) (by kernel_rfl) (by simp) ?_
    refine AllReadyH.cons (o := _) rfl (fun K hK => ?_) ?_
    · rw [if_pos (by rfl)]
      have FR : ∀ t ∈ ents ⟨name, mode, uid, gid, size, mtime, typ, link, uname, gname, major, minor, pre⟩ false true false true true, t.1 ≠ 110 :: name := by simp [ents]
      obtain ⟨W', hrun, hH, hB⟩ := holds_insert hL (110 :: name) 100 (fun t ht => FR t ((hm t).1 ht))
      have hBW := hb.trans (hB w0.heap.size (Nat.le_refl _))
      go_simp
      refine hK.out _ _ (HS _ hBW) (fun _ => IH true true false true true W' (by decide) ⟨_, hH, fun t => by rw [List.mem_append, hm t]; simp [ents]; try (refine iff_of_eq ?_; ac_rfl), hBW⟩)
    refine AllReadyH.cons (o := _) rfl (fun K hK => ?_) ?_
    · rw [if_pos (by rfl)]
      have FR : ∀ t ∈ ents ⟨name, mode, uid, gid, size, mtime, typ, link, uname, gname, major, minor, pre⟩ false true false true true, t.1 ≠ 117 :: uname := by simp [ents]
      obtain ⟨W', hrun, hH, hB⟩ := holds_insert hL (117 :: uname) 32 (fun t ht => FR t ((hm t).1 ht))
      have hBW := hb.trans (hB w0.heap.size (Nat.le_refl _))
      go_simp
      refine hK.out _ _ (HS _ hBW) (fun _ => IH false true true true true W' (by decide) ⟨_, hH, fun t => by rw [List.mem_append, hm t]; simp [ents]; try (refine iff_of_eq ?_; ac_rfl), hBW⟩)
    exact AllReadyH.nil
  · refine wpAnyH_ready (rs := [4, 16, 20]) (by kernel_rfl) (by simp) ?_
    refine AllReadyH.cons (o := _) rfl (fun K hK => ?_) ?_
    · rw [if_pos (by rfl)]
      have FR : ∀ t ∈ ents ⟨name, mode, uid, gid, size, mtime, typ, link, uname, gname, major, minor, pre⟩ false true true false false, t.1 ≠ 110 :: name := by simp [ents]
      obtain ⟨W', hrun, hH, hB⟩ := holds_insert hL (110 :: name) 100 (fun t ht => FR t ((hm t).1 ht))
      have hBW := hb.trans (hB w0.heap.size (Nat.le_refl _))
      go_simp
      refine hK.out _ _ (HS _ hBW) (fun _ => IH true true true false false W' (by decide) ⟨_, hH, fun t => by rw [List.mem_append, hm t]; simp [ents]; try (refine iff_of_eq ?_; ac_rfl), hBW⟩)
    refine AllReadyH.cons (o := _) rfl (fun K hK => ?_) ?_
    · rw [if_pos (by rfl)]
      have FR : ∀ t ∈ ents ⟨name, mode, uid, gid, size, mtime, typ, link, uname, gname, major, minor, pre⟩ false true true false false, t.1 ≠ 103 :: gname := by simp [ents]
      obtain ⟨W', hrun, hH, hB⟩ := holds_insert hL (103 :: gname) 32 (fun t ht => FR t ((hm t).1 ht))
      have hBW := hb.trans (hB w0.heap.size (Nat.le_refl _))
      go_simp
      refine hK.out _ _ (HS _ hBW) (fun _ => IH false true true true false W' (by decide) ⟨_, hH, fun t => by rw [List.mem_append, hm t]; simp [ents]; try (refine iff_of_eq ?_; ac_rfl), hBW⟩)
    refine AllReadyH.cons (o := _) rfl (fun K hK => ?_) ?_
    · rw [if_pos (by rfl)]
      have FR : ∀ t ∈ ents ⟨name, mode, uid, gid, size, mtime, typ, link, uname, gname, major, minor, pre⟩ false true true false false, t.1 ≠ 112 :: pre := by simp [ents]
      obtain ⟨W', hrun, hH, hB⟩ := holds_insert hL (112 :: pre) 155 (fun t ht => FR t ((hm t).1 ht))
      have hBW := hb.trans (hB w0.heap.size (Nat.le_refl _))
      go_simp
      refine hK.out _ _ (HS _ hBW) (fun _ => IH false true true false true W' (by decide) ⟨_, hH, fun t => by rw [List.mem_append, hm t]; simp [ents]; try (refine iff_of_eq ?_; ac_rfl), hBW⟩)
    exact AllReadyH.nil
  · refine wpAnyH_ready (rs := [4, 16]) (by kernel_rfl) (by simp) ?_
    refine AllReadyH.cons (o := _) rfl (fun K hK => ?_) ?_
    · rw [if_pos (by rfl)]
      have FR : ∀ t ∈ ents ⟨name, mode, uid, gid, size, mtime, typ, link, uname, gname, major, minor, pre⟩ false true true false true, t.1 ≠ 110 :: name := by simp [ents]
      obtain ⟨W', hrun, hH, hB⟩ := holds_insert hL (110 :: name) 100 (fun t ht => FR t ((hm t).1 ht))
      have hBW := hb.trans (hB w0.heap.size (Nat.le_refl _))
      go_simp
      refine hK.out _ _ (HS _ hBW) (fun _ => IH true true true false true W' (by decide) ⟨_, hH, fun t => by rw [List.mem_append, hm t]; simp [ents]; try (refine iff_of_eq ?_; ac_rfl), hBW⟩)
    refine AllReadyH.cons (o := _) rfl (fun K hK => ?_) ?_
    · rw [if_pos (by rfl)]
      have FR : ∀ t ∈ ents ⟨name, mode, uid, gid, size, mtime, typ, link, uname, gname, major, minor, pre⟩ false true true false true, t.1 ≠ 103 :: gname := by simp [ents]
      obtain ⟨W', hrun, hH, hB⟩ := holds_insert hL (103 :: gname) 32 (fun t ht => FR t ((hm t).1 ht))
      have hBW := hb.trans (hB w0.heap.size (Nat.le_refl _))
      go_simp
      refine hK.out _ _ (HS _ hBW) (fun _ => IH false true true true true W' (by decide) ⟨_, hH, fun t => by rw [List.mem_append, hm t]; simp [ents]; try (refine iff_of_eq ?_; ac_rfl), hBW⟩)
    exact AllReadyH.nil
  · refine wpAnyH_ready (rs := [4, 20]) (by kernel_rfl) (by simp) ?_
    refine AllReadyH.cons (o := _) rfl (fun K hK => ?_) ?_
    · rw [if_pos (by rfl)]
      have FR : ∀ t ∈ ents ⟨name, mode, uid, gid, size, mtime, typ, link, uname, gname, major, minor, pre⟩ false true true true false, t.1 ≠ 110 :: name := by simp [ents]
      obtain ⟨W', hrun, hH, hB⟩ := holds_insert hL (110 :: name) 100 (fun t ht => FR t ((hm t).1 ht))
      have hBW := hb.trans (hB w0.heap.size (Nat.le_refl _))
      go_simp
      refine hK.out _ _ (HS _ hBW) (fun _ => IH true true true true false W' (by decide) ⟨_, hH, fun t => by rw [List.mem_append, hm t]; simp [ents]; try (refine iff_of_eq ?_; ac_rfl), hBW⟩)
    refine AllReadyH.cons (o := _) rfl (fun K hK => ?_) ?_
    · rw [if_pos (by rfl)]
      have FR : ∀ t ∈ ents ⟨name, mode, uid, gid, size, mtime, typ, link, uname, gname, major, minor, pre⟩ false true true true false, t.1 ≠ 112 :: pre := by simp [ents]
      obtain ⟨W', hrun, hH, hB⟩ := holds_insert hL (112 :: pre) 155 (fun t ht => FR t ((hm t).1 ht))
      have hBW := hb.trans (hB w0.heap.size (Nat.le_refl _))
      go_simp
      refine hK.out _ _ (HS _ hBW) (fun _ => IH false true true true true W' (by decide) ⟨_, hH, fun t => by rw [List.mem_append, hm t]; simp [ents]; try (refine iff_of_eq ?_; ac_rfl), hBW⟩)
    exact AllReadyH.nil
  · refine wpAnyH_ready (rs := [4]) (by kernel_rfl) (by simp) ?_
    refine AllReadyH.cons (o := _) rfl (fun K hK => ?_) ?_
    · rw [if_pos (by rfl)]
      have FR : ∀ t ∈ ents ⟨name, mode, uid, gid, size, mtime, typ, link, uname, gname, major, minor, pre⟩ false true true true true, t.1 ≠ 110 :: name := by simp [ents]
      obtain ⟨W', hrun, hH, hB⟩ := holds_insert hL (110 :: name) 100 (fun t ht => FR t ((hm t).1 ht))
      have hBW := hb.trans (hB w0.heap.size (Nat.le_refl _))
      go_simp
      refine hK.out _ _ (HS _ hBW) (fun _ => IH true true true true true W' (by decide) ⟨_, hH, fun t => by rw [List.mem_append, hm t]; simp [ents]; try (refine iff_of_eq ?_; ac_rfl), hBW⟩)
    exact AllReadyH.nil
  · refine wpAnyH_ready (rs := [8, 12, 16, 20]) (by kernel_rfl) (by simp) ?_
    refine AllReadyH.cons (o := _) rfl (fun K hK => ?_) ?_
    · rw [if_pos (by rfl)]
      have FR : ∀ t ∈ ents ⟨name, mode, uid, gid, size, mtime, typ, link, uname, gname, major, minor, pre⟩ true false false false false, t.1 ≠ 108 :: link := by simp [ents]
      obtain ⟨W', hrun, hH, hB⟩ := holds_insert hL (108 :: link) 100 (fun t ht => FR t ((hm t).1 ht))
      have hBW := hb.trans (hB w0.heap.size (Nat.le_refl _))
      go_simp
      refine hK.out _ _ (HS _ hBW) (fun _ => IH true true false false false W' (by decide) ⟨_, hH, fun t => by rw [List.mem_append, hm t]; simp [ents]; try (refine iff_of_eq ?_; ac_rfl), hBW⟩)
    refine AllReadyH.cons (o := _) rfl (fun K hK => ?_) ?_
    · rw [if_pos (by rfl)]
      have FR : ∀ t ∈ ents ⟨name, mode, uid, gid, size, mtime, typ, link, uname, gname, major, minor, pre⟩ true false false false false, t.1 ≠ 117 :: uname := by simp [ents]
      obtain ⟨W', hrun, hH, hB⟩ := holds_insert hL (117 :: uname) 32 (fun t ht => FR t ((hm t).1 ht))
      have hBW := hb.trans (hB w0.heap.size (Nat.le_refl _))
      go_simp
      refine hK.out _ _ (HS _ hBW) (fun _ => IH true false true false false W' (by decide) ⟨_, hH, fun t => by rw [List.mem_append, hm t]; simp [ents]; try (refine iff_of_eq ?_; ac_rfl), hBW⟩)
    refine AllReadyH.cons (o := _) rfl (fun K hK => ?_) ?_
    · rw [if_pos (by rfl)]
      have FR : ∀ t ∈ ents ⟨name, mode, uid, gid, size, mtime, typ, link, uname, gname, major, minor, pre⟩ true false false false false, t.1 ≠ 103 :: gname := by simp [ents]
      obtain ⟨W', hrun, hH, hB⟩ := holds_insert hL (103 :: gname) 32 (fun t ht => FR t ((hm t).1 ht))
      have hBW := hb.trans (hB w0.heap.size (Nat.le_refl _))
      go_simp
      refine hK.out _ _ (HS _ hBW) (fun _ => IH true false false true false W' (by decide) ⟨_, hH, fun t => by rw [List.mem_append, hm t]; simp [ents]; try (refine iff_of_eq ?_; ac_rfl), hBW⟩)
    refine AllReadyH.cons (o := _) rfl (fun K hK => ?_) ?_
    · rw [if_pos (by rfl)]
      have FR : ∀ t ∈ ents ⟨name, mode, uid, gid, size, mtime, typ, link, uname, gname, major, minor, pre⟩ true false false false false, t.1 ≠ 112 :: pre := by simp [ents]
      obtain ⟨W', hrun, hH, hB⟩ := holds_insert hL (112 :: pre) 155 (fun t ht => FR t ((hm t).1 ht))
      have hBW := hb.trans (hB w0.heap.size (Nat.le_refl _))
      go_simp
      refine hK.out _ _ (HS _ hBW) (fun _ => IH true false false false true W' (by decide) ⟨_, hH, fun t => by rw [List.mem_append, hm t]; simp [ents]; try (refine iff_of_eq ?_; ac_rfl), hBW⟩)
    exact AllReadyH.nil
  · refine wpAnyH_ready (rs := [8, 12, 16]) (by kernel_rfl) (by simp) ?_
    refine AllReadyH.cons (o := _) rfl (fun K hK => ?_) ?_
    · rw [if_pos (by rfl)]
      have FR : ∀ t ∈ ents ⟨name, mode, uid, gid, size, mtime, typ, link, uname, gname, major, minor, pre⟩ true false false false true, t.1 ≠ 108 :: link := by simp [ents]
      obtain ⟨W', hrun, hH, hB⟩ := holds_insert hL (108 :: link) 100 (fun t ht => FR t ((hm t).1 ht))
      have hBW := hb.trans (hB w0.heap.size (Nat.le_refl _))
      go_simp
      refine hK.out _ _ (HS _ hBW) (fun _ => IH true true false false true W' (by decide) ⟨_, hH, fun t => by rw [List.mem_append, hm t]; simp [ents]; try (refine iff_of_eq ?_; ac_rfl), hBW⟩)
    refine AllReadyH.cons (o := _) rfl (fun K hK => ?_) ?_
    · rw [if_pos (by rfl)]
      have FR : ∀ t ∈ ents ⟨name, mode, uid, gid, size, mtime, typ, link, uname, gname, major, minor, pre⟩ true false false false true, t.1 ≠ 117 :: uname := by simp [ents]
      obtain ⟨W', hrun, hH, hB⟩ := holds_insert hL (117 :: uname) 32 (fun t ht => FR t ((hm t).1 ht))
      have hBW := hb.trans (hB w0.heap.size (Nat.le_refl _))
      go_simp
      refine hK.out _ _ (HS _ hBW) (fun _ => IH true false true false true W' (by decide) ⟨_, hH, fun t => by rw [List.mem_append, hm t]; simp [ents]; try (refine iff_of_eq ?_; ac_rfl), hBW⟩)
    refine AllReadyH.cons (o := _) rfl (fun K hK => ?_) ?_
    · rw [if_pos (by rfl)]
      have FR : ∀ t ∈ ents ⟨name, mode, uid, gid, size, mtime, typ, link, uname, gname, major, minor, pre⟩ true false false false true, t.1 ≠ 103 :: gname := by simp [ents]
      obtain ⟨W', hrun, hH, hB⟩ := holds_insert hL (103 :: gname) 32 (fun t ht => FR t ((hm t).1 ht))
      have hBW := hb.trans (hB w0.heap.size (Nat.le_refl _))
      go_simp
      refine hK.out _ _ (HS _ hBW) (fun _ => IH true false false true true W' (by decide) ⟨_, hH, fun t => by rw [List.mem_append, hm t]; simp [ents]; try (refine iff_of_eq ?_; ac_rfl), hBW⟩)
    exact AllReadyH.nil
  · refine wpAnyH_ready (rs := [8, 12, 20]) (by kernel_rfl) (by simp) ?_
    refine AllReadyH.cons (o := _) rfl (fun K hK => ?_) ?_
    · rw [if_pos (by rfl)]
      have FR : ∀ t ∈ ents ⟨name, mode, uid, gid, size, mtime, typ, link, uname, gname, major, minor, pre⟩ true false false true false, t.1 ≠ 108 :: link := by simp [ents]
      obtain ⟨W', hrun, hH, hB⟩ := holds_insert hL (108 :: link) 100 (fun t ht => FR t ((hm t).1 ht))
      have hBW := hb.trans (hB w0.heap.size (Nat.le_refl _))
      go_simp
      refine hK.out _ _ (HS _ hBW) (fun _ => IH true true false true false W' (by decide) ⟨_, hH, fun t => by rw [List.mem_append, hm t]; simp [ents]; try (refine iff_of_eq ?_; ac_rfl), hBW⟩)
    refine AllReadyH.cons (o := _) rfl (fun K hK => ?_) ?_
    · rw [if_pos (by rfl)]
      have FR : ∀ t ∈ ents ⟨name, mode, uid, gid, size, mtime, typ, link, uname, gname, major, minor, pre⟩ true false false true false, t.1 ≠ 117 :: uname := by simp [ents]
      obtain ⟨W', hrun, hH, hB⟩ := holds_insert hL (117 :: uname) 32 (fun t ht => FR t ((hm t).1 ht))
      have hBW := hb.trans (hB w0.heap.size (Nat.le_refl _))
      go_simp
      refine hK.out _ _ (HS _ hBW) (fun _ => IH true false true true false W' (by decide) ⟨_, hH, fun t => by rw [List.mem_append, hm t]; simp [ents]; try (refine iff_of_eq ?_; ac_rfl), hBW⟩)
    refine AllReadyH.cons (o := _) rfl (fun K hK => ?_) ?_
    · rw [if_pos (by rfl)]
      have FR : ∀ t ∈ ents ⟨name, mode, uid, gid, size, mtime, typ, link, uname, gname, major, minor, pre⟩ true false false true false, t.1 ≠ 112 :: pre := by simp [ents]
      obtain ⟨W', hrun, hH, hB⟩ := holds_insert hL (112 :: pre) 155 (fun t ht => FR t ((hm t).1 ht))
      have hBW := hb.trans (hB w0.heap.size (Nat.le_refl _))
      go_simp
      refine hK.out _ _ (HS _ hBW) (fun _ => IH true false false true true W' (by decide) ⟨_, hH, fun t => by rw [List.mem_append, hm t]; simp [ents]; try (refine iff_of_eq ?_; ac_rfl), hBW⟩)
    exact AllReadyH.nil
  · refine wpAnyH_ready (rs := [8, 12]) (by kernel_rfl) (by simp) ?_
    refine AllReadyH.cons (o := _) rfl (fun K hK => ?_) ?_
    · rw [if_pos (by rfl)]
      have FR : ∀ t ∈ ents ⟨name, mode, uid, gid, size, mtime, typ, link, uname, gname, major, minor, pre⟩ true false false true true, t.1 ≠ 108 :: link := by simp [ents]
      obtain ⟨W', hrun, hH, hB⟩ := holds_insert hL (108 :: link) 100 (fun t ht => FR t ((hm t).1 ht))
      have hBW := hb.trans (hB w0.heap.size (Nat.le_refl _))
      go_simp
      refine hK.out _ _ (HS _ hBW) (fun _ => IH true true false true true W' (by decide) ⟨_, hH, fun t => by rw [List.mem_append, hm t]; simp [ents]; try (refine iff_of_eq ?_; ac_rfl), hBW⟩)
    refine AllReadyH.cons (o := _) rfl (fun K hK => ?_) ?_
    · rw [if_pos (by rfl)]
      have FR : ∀ t ∈ ents ⟨name, mode, uid, gid, size, mtime, typ, link, uname, gname, major, minor, pre⟩ true false false true true, t.1 ≠ 117 :: uname := by simp [ents]
      obtain ⟨W', hrun, hH, hB⟩ := holds_insert hL (117 :: uname) 32 (fun t ht => FR t ((hm t).1 ht))
      have hBW := hb.trans (hB w0.heap.size (Nat.le_refl _))
      go_simp
      refine hK.out _ _ (HS _ hBW) (fun _ => IH true false true true true W' (by decide) ⟨_, hH, fun t => by rw [List.mem_append, hm t]; simp [ents]; try (refine iff_of_eq ?_; ac_rfl), hBW⟩)
    exact AllReadyH.nil
  · refine wpAnyH_ready (rs := [8, 16, 20]) (by kernel_rfl) (by simp) ?_
    refine AllReadyH.cons (o := _) rfl (fun K hK => ?_) ?_
    · rw [if_pos (by rfl)]
      have FR : ∀ t ∈ ents ⟨name, mode, uid, gid, size, mtime, typ, link, uname, gname, major, minor, pre⟩ true false true false false, t.1 ≠ 108 :: link := by simp [ents]
      obtain ⟨W', hrun, hH, hB⟩ := holds_insert hL (108 :: link) 100 (fun t ht => FR t ((hm t).1 ht))
      have hBW := hb.trans (hB w0.heap.size (Nat.le_refl _))
      go_simp
      refine hK.out _ _ (HS _ hBW) (fun _ => IH true true true false false W' (by decide) ⟨_, hH, fun t => by rw [List.mem_append, hm t]; simp [ents]; try (refine iff_of_eq ?_; ac_rfl), hBW⟩)
    refine AllReadyH.cons (o := _) rfl (fun K hK => ?_) ?_
    · rw [if_pos (by rfl)]
      have FR : ∀ t ∈ ents ⟨name, mode, uid, gid, size, mtime, typ, link, uname, gname, major, minor, pre⟩ true false true false false, t.1 ≠ 103 :: gname := by simp [ents]
      obtain ⟨W', hrun, hH, hB⟩ := holds_insert hL (103 :: gname) 32 (fun t ht => FR t ((hm t).1 ht))
      have hBW := hb.trans (hB w0.heap.size (Nat.le_refl _))
      go_simp
      refine hK.out _ _ (HS _ hBW) (fun _ => IH true false true true false W' (by decide) ⟨_, hH, fun t => by rw [List.mem_append, hm t]; simp [ents]; try (refine iff_of_eq ?_; ac_rfl), hBW⟩)
    refine AllReadyH.cons (o := _) rfl (fun K hK => ?_) ?_
    · rw [if_pos (by rfl)]
      have FR : ∀ t ∈ ents ⟨name, mode, uid, gid, size, mtime, typ, link, uname, gname, major, minor, pre⟩ true false true false false, t.1 ≠ 112 :: pre := by simp [ents]
      obtain ⟨W', hrun, hH, hB⟩ := holds_insert hL (112 :: pre) 155 (fun t ht => FR t ((hm t).1 ht))
      have hBW := hb.trans (hB w0.heap.size (Nat.le_refl _))
      go_simp
      refine hK.out _ _ (HS _ hBW) (fun _ => IH true false true false true W' (by decide) ⟨_, hH, fun t => by rw [List.mem_append, hm t]; simp [ents]; try (refine iff_of_eq ?_; ac_rfl), hBW⟩)
    exact AllReadyH.nil
  · refine wpAnyH_ready (rs := [8, 16]) (by kernel_rfl) (by simp) ?_
    refine AllReadyH.cons (o := _) rfl (fun K hK => ?_) ?_
    · rw [if_pos (by rfl)]
      have FR : ∀ t ∈ ents ⟨name, mode, uid, gid, size, mtime, typ, link, uname, gname, major, minor, pre⟩ true false true false true, t.1 ≠ 108 :: link := by simp [ents]
      obtain ⟨W', hrun, hH, hB⟩ := holds_insert hL (108 :: link) 100 (fun t ht => FR t ((hm t).1 ht))
      have hBW := hb.trans (hB w0.heap.size (Nat.le_refl _))
      go_simp
      refine hK.out _ _ (HS _ hBW) (fun _ => IH true true true false true W' (by decide) ⟨_, hH, fun t => by rw [List.mem_append, hm t]; simp [ents]; try (refine iff_of_eq ?_; ac_rfl), hBW⟩)
    refine AllReadyH.cons (o := _) rfl (fun K hK => ?_) ?_
    · rw [if_pos (by rfl)]
      have FR : ∀ t ∈ ents ⟨name, mode, uid, gid, size, mtime, typ, link, uname, gname, major, minor, pre⟩ true false true false true, t.1 ≠ 103 :: gname := by simp [ents]
      obtain ⟨W', hrun, hH, hB⟩ := holds_insert hL (103 :: gname) 32 (fun t ht => FR t ((hm t).1 ht))
      have hBW := hb.trans (hB w0.heap.size (Nat.le_refl _))
      go_simp
      refine hK.out _ _ (HS _ hBW) (fun _ => IH true false true true true W' (by decide) ⟨_, hH, fun t => by rw [List.mem_append, hm t]; simp [ents]; try (refine iff_of_eq ?_; ac_rfl), hBW⟩)
    exact AllReadyH.nil
  · refine wpAnyH_ready (rs := [8, 20]) (by kernel_rfl) (by simp) ?_
    refine AllReadyH.cons (o := _) rfl (fun K hK => ?_) ?_
    · rw [if_pos (by rfl)]
      have FR : ∀ t ∈ ents ⟨name, mode, uid, gid, size, mtime, typ, link, uname, gname, major, minor, pre⟩ true false true true false, t.1 ≠ 108 :: link := by simp [ents]
      obtain ⟨W', hrun, hH, hB⟩ := holds_insert hL (108 :: link) 100 (fun t ht => FR t ((hm t).1 ht))
      have hBW := hb.trans (hB w0.heap.size (Nat.le_refl _))
      go_simp
      refine hK.out _ _ (HS _ hBW) (fun _ => IH true true true true false W' (by decide) ⟨_, hH, fun t => by rw [List.mem_append, hm t]; simp [ents]; try (refine iff_of_eq ?_; ac_rfl), hBW⟩)
    refine AllReadyH.cons (o := _) rfl (fun K hK => ?_) ?_
    · rw [if_pos (by rfl)]
      have FR : ∀ t ∈ ents ⟨name, mode, uid, gid, size, mtime, typ, link, uname, gname, major, minor, pre⟩ true false true true false, t.1 ≠ 112 :: pre := by simp [ents]
      obtain ⟨W', hrun, hH, hB⟩ := holds_insert hL (112 :: pre) 155 (fun t ht => FR t ((hm t).1 ht))
      have hBW := hb.trans (hB w0.heap.size (Nat.le_refl _))
      go_simp
      refine hK.out _ _ (HS _ hBW) (fun _ => IH true false true true true W' (by decide) ⟨_, hH, fun t => by rw [List.mem_append, hm t]; simp [ents]; try (refine iff_of_eq ?_; ac_rfl), hBW⟩)
    exact AllReadyH.nil
  · refine wpAnyH_ready (rs := [8]) (by kernel_rfl) (by simp) ?_
    refine AllReadyH.cons (o := _) rfl (fun K hK => ?_) ?_
    · rw [if_pos (by rfl)]
      have FR : ∀ t ∈ ents ⟨name, mode, uid, gid, size, mtime, typ, link, uname, gname, major, minor, pre⟩ true false true true true, t.1 ≠ 108 :: link := by simp [ents]
      obtain ⟨W', hrun, hH, hB⟩ := holds_insert hL (108 :: link) 100 (fun t ht => FR t ((hm t).1 ht))
      have hBW := hb.trans (hB w0.heap.size (Nat.le_refl _))
      go_simp
      refine hK.out _ _ (HS _ hBW) (fun _ => IH true true true true true W' (by decide) ⟨_, hH, fun t => by rw [List.mem_append, hm t]; simp [ents]; try (refine iff_of_eq ?_; ac_rfl), hBW⟩)
    exact AllReadyH.nil
  · refine wpAnyH_ready (rs := [12, 16, 20]) (by kernel_rfl) (by simp) ?_
    refine AllReadyH.cons (o := _) rfl (fun K hK => ?_) ?_
    · rw [if_pos (by rfl)]
      have FR : ∀ t ∈ ents ⟨name, mode, uid, gid, size, mtime, typ, link, uname, gname, major, minor, pre⟩ true true false false false, t.1 ≠ 117 :: uname := by simp [ents]
      obtain ⟨W', hrun, hH, hB⟩ := holds_insert hL (117 :: uname) 32 (fun t ht => FR t ((hm t).1 ht))
      have hBW := hb.trans (hB w0.heap.size (Nat.le_refl _))
      go_simp
      refine hK.out _ _ (HS _ hBW) (fun _ => IH true true true false false W' (by decide) ⟨_, hH, fun t => by rw [List.mem_append, hm t]; simp [ents]; try (refine iff_of_eq ?_; ac_rfl), hBW⟩)
    refine AllReadyH.cons (o := _) rfl (fun K hK => ?_) ?_
    · rw [if_pos (by rfl)]
      have FR : ∀ t ∈ ents ⟨name, mode, uid, gid, size, mtime, typ, link, uname, gname, major, minor, pre⟩ true true false false false, t.1 ≠ 103 :: gname := by simp [ents]
      obtain ⟨W', hrun, hH, hB⟩ := holds_insert hL (103 :: gname) 32 (fun t ht => FR t ((hm t).1 ht))
      have hBW := hb.trans (hB w0.heap.size (Nat.le_refl _))
      go_simp
      refine hK.out _ _ (HS _ hBW) (fun _ => IH true true false true false W' (by decide) ⟨_, hH, fun t => by rw [List.mem_append, hm t]; simp [ents]; try (refine iff_of_eq ?_; ac_rfl), hBW⟩)
    refine AllReadyH.cons (o := _) rfl (fun K hK => ?_) ?_
    · rw [if_pos (by rfl)]
      have FR : ∀ t ∈ ents ⟨name, mode, uid, gid, size, mtime, typ, link, uname, gname, major, minor, pre⟩ true true false false false, t.1 ≠ 112 :: pre := by simp [ents]
      obtain ⟨W', hrun, hH, hB⟩ := holds_insert hL (112 :: pre) 155 (fun t ht => FR t ((hm t).1 ht))
      have hBW := hb.trans (hB w0.heap.size (Nat.le_refl _))
      go_simp
      refine hK.out _ _ (HS _ hBW) (fun _ => IH true true false false true W' (by decide) ⟨_, hH, fun t => by rw [List.mem_append, hm t]; simp [ents]; try (refine iff_of_eq ?_; ac_rfl), hBW⟩)
    exact AllReadyH.nil
  · refine wpAnyH_ready (rs := [12, 16]) (by kernel_rfl) (by simp) ?_
    refine AllReadyH.cons (o := _) rfl (fun K hK => ?_) ?_
    · rw [if_pos (by rfl)]
      have FR : ∀ t ∈ ents ⟨name, mode, uid, gid, size, mtime, typ, link, uname, gname, major, minor, pre⟩ true true false false true, t.1 ≠ 117 :: uname := by simp [ents]
      obtain ⟨W', hrun, hH, hB⟩ := holds_insert hL (117 :: uname) 32 (fun t ht => FR t ((hm t).1 ht))
      have hBW := hb.trans (hB w0.heap.size (Nat.le_refl _))
      go_simp
      refine hK.out _ _ (HS _ hBW) (fun _ => IH true true true false true W' (by decide) ⟨_, hH, fun t => by rw [List.mem_append, hm t]; simp [ents]; try (refine iff_of_eq ?_; ac_rfl), hBW⟩)
    refine AllReadyH.cons (o := _) rfl (fun K hK => ?_) ?_
    · rw [if_pos (by rfl)]
      have FR : ∀ t ∈ ents ⟨name, mode, uid, gid, size, mtime, typ, link, uname, gname, major, minor, pre⟩ true true false false true, t.1 ≠ 103 :: gname := by simp [ents]
      obtain ⟨W', hrun, hH, hB⟩ := holds_insert hL (103 :: gname) 32 (fun t ht => FR t ((hm t).1 ht))
      have hBW := hb.trans (hB w0.heap.size (Nat.le_refl _))
      go_simp
      refine hK.out _ _ (HS _ hBW) (fun _ => IH true true false true true W' (by decide) ⟨_, hH, fun t => by rw [List.mem_append, hm t]; simp [ents]; try (refine iff_of_eq ?_; ac_rfl), hBW⟩)
    exact AllReadyH.nil
  · refine wpAnyH_ready (rs := [12, 20]) (by kernel_rfl) (by simp) ?_
    refine AllReadyH.cons (o := _) rfl (fun K hK => ?_) ?_
    · rw [if_pos (by rfl)]
      have FR : ∀ t ∈ ents ⟨name, mode, uid, gid, size, mtime, typ, link, uname, gname, major, minor, pre⟩ true true false true false, t.1 ≠ 117 :: uname := by simp [ents]
      obtain ⟨W', hrun, hH, hB⟩ := holds_insert hL (117 :: uname) 32 (fun t ht => FR t ((hm t).1 ht))
      have hBW := hb.trans (hB w0.heap.size (Nat.le_refl _))
      go_simp
      refine hK.out _ _ (HS _ hBW) (fun _ => IH true true true true false W' (by decide) ⟨_, hH, fun t => by rw [List.mem_append, hm t]; simp [ents]; try (refine iff_of_eq ?_; ac_rfl), hBW⟩)
    refine AllReadyH.cons (o := _) rfl (fun K hK => ?_) ?_
    · rw [if_pos (by rfl)]
      have FR : ∀ t ∈ ents ⟨name, mode, uid, gid, size, mtime, typ, link, uname, gname, major, minor, pre⟩ true true false true false, t.1 ≠ 112 :: pre := by simp [ents]
      obtain ⟨W', hrun, hH, hB⟩ := holds_insert hL (112 :: pre) 155 (fun t ht => FR t ((hm t).1 ht))
      have hBW := hb.trans (hB w0.heap.size (Nat.le_refl _))
      go_simp
      refine hK.out _ _ (HS _ hBW) (fun _ => IH true true false true true W' (by decide) ⟨_, hH, fun t => by rw [List.mem_append, hm t]; simp [ents]; try (refine iff_of_eq ?_; ac_rfl), hBW⟩)
    exact AllReadyH.nil
  · refine wpAnyH_ready (rs := [12]) (by kernel_rfl) (by simp) ?_
    refine AllReadyH.cons (o := _) rfl (fun K hK => ?_) ?_
    · rw [if_pos (by rfl)]
      have FR : ∀ t ∈ ents ⟨name, mode, uid, gid, size, mtime, typ, link, uname, gname, major, minor, pre⟩ true true false true true, t.1 ≠ 117 :: uname := by simp [ents]
      obtain ⟨W', hrun, hH, hB⟩ := holds_insert hL (117 :: uname) 32 (fun t ht => FR t ((hm t).1 ht))
      have hBW := hb.trans (hB w0.heap.size (Nat.le_refl _))
      go_simp
      refine hK.out _ _ (HS _ hBW) (fun _ => IH true true true true true W' (by decide) ⟨_, hH, fun t => by rw [List.mem_append, hm t]; simp [ents]; try (refine iff_of_eq ?_; ac_rfl), hBW⟩)
    exact AllReadyH.nil
  · refine wpAnyH_ready (rs := [16, 20]) (by kernel_rfl) (by simp) ?_
    refine AllReadyH.cons (o := _) rfl (fun K hK => ?_) ?_
    · rw [if_pos (by rfl)]
      have FR : ∀ t ∈ ents ⟨name, mode, uid, gid, size, mtime, typ, link, uname, gname, major, minor, pre⟩ true true true false false, t.1 ≠ 103 :: gname := by simp [ents]
      obtain ⟨W', hrun, hH, hB⟩ := holds_insert hL (103 :: gname) 32 (fun t ht => FR t ((hm t).1 ht))
      have hBW := hb.trans (hB w0.heap.size (Nat.le_refl _))
      go_simp
      refine hK.out _ _ (HS _ hBW) (fun _ => IH true true true true false W' (by decide) ⟨_, hH, fun t => by rw [List.mem_append, hm t]; simp [ents]; try (refine iff_of_eq ?_; ac_rfl), hBW⟩)
    refine AllReadyH.cons (o := _) rfl (fun K hK => ?_) ?_
    · rw [if_pos (by rfl)]
      have FR : ∀ t ∈ ents ⟨name, mode, uid, gid, size, mtime, typ, link, uname, gname, major, minor, pre⟩ true true true false false, t.1 ≠ 112 :: pre := by simp [ents]
      obtain ⟨W', hrun, hH, hB⟩ := holds_insert hL (112 :: pre) 155 (fun t ht => FR t ((hm t).1 ht))
      have hBW := hb.trans (hB w0.heap.size (Nat.le_refl _))
      go_simp
      refine hK.out _ _ (HS _ hBW) (fun _ => IH true true true false true W' (by decide) ⟨_, hH, fun t => by rw [List.mem_append, hm t]; simp [ents]; try (refine iff_of_eq ?_; ac_rfl), hBW⟩)
    exact AllReadyH.nil
  · refine wpAnyH_ready (rs := [16]) (by kernel_rfl) (by simp) ?_
    refine AllReadyH.cons (o := _) rfl (fun K hK => ?_) ?_
    · rw [if_pos (by rfl)]
      have FR : ∀ t ∈ ents ⟨name, mode, uid, gid, size, mtime, typ, link, uname, gname, major, minor, pre⟩ true true true false true, t.1 ≠ 103 :: gname := by simp [ents]
      obtain ⟨W', hrun, hH, hB⟩ := holds_insert hL (103 :: gname) 32 (fun t ht => FR t ((hm t).1 ht))
      have hBW := hb.trans (hB w0.heap.size (Nat.le_refl _))
      go_simp
      refine hK.out _ _ (HS _ hBW) (fun _ => IH true true true true true W' (by decide) ⟨_, hH, fun t => by rw [List.mem_append, hm t]; simp [ents]; try (refine iff_of_eq ?_; ac_rfl), hBW⟩)
    exact AllReadyH.nil
  · refine wpAnyH_ready (rs := [20]) (by kernel_rfl) (by simp) ?_
    refine AllReadyH.cons (o := _) rfl (fun K hK => ?_) ?_
    · rw [if_pos (by rfl)]
      have FR : ∀ t ∈ ents ⟨name, mode, uid, gid, size, mtime, typ, link, uname, gname, major, minor, pre⟩ true true true true false, t.1 ≠ 112 :: pre := by simp [ents]
      obtain ⟨W', hrun, hH, hB⟩ := holds_insert hL (112 :: pre) 155 (fun t ht => FR t ((hm t).1 ht))
      have hBW := hb.trans (hB w0.heap.size (Nat.le_refl _))
      go_simp
      refine hK.out _ _ (HS _ hBW) (fun _ => IH true true true true true W' (by decide) ⟨_, hH, fun t => by rw [List.mem_append, hm t]; simp [ents]; try (refine iff_of_eq ?_; ac_rfl), hBW⟩)
    exact AllReadyH.nil
  · clear IH
    refine wpAnyH_ready (rs := [21]) (by kernel_rfl) (by simp) ?_
    refine AllReadyH.cons (o := _) rfl (fun K hK => ?_) AllReadyH.nil
    rw [if_pos (by rfl)]
    go_simp
    refine hK.out _ _ (HS _ hb) (fun _ => ?_)
    clear hK K
    refine wpAnyH_ready (rs := [22]) (by kernel_rfl) (by simp) ?_
    refine AllReadyH.cons (o := _) rfl (fun K hK => ?_) AllReadyH.nil
    rw [if_pos (by rfl)]
    go_simp
    refine hK.out _ _ (HS _ hb) (fun _ => ?_)
    clear hK K
    refine wpAnyH_done (by kernel_rfl) ?_ _
    refine NoPanic.normal ?_
    go_wp2_with fail
    go_ret
    exact ⟨_, L, rfl, hL, fun t => by rw [hm t]; simp [ents, textEntries], hle, below_next HB0.out hb⟩
end Go.Proofs.YtbjbnipjeehaoaaGreatDoor.H
namespace Go.Proofs.YtbjbnipjeehaoaaGreatDoor.H
open Go.RowKit Go.Proofs.YtbjbnipjeehaoaaGreatDoorW.PrintWords
/-- An entry that May lets pass. -/
def entOk (t : List UInt8 × Int) : Bool := decide ((t.1.length : Int) - 1 ≤ t.2) && !t.1.contains 0
def textsOk (h : Hd) : Bool := textOk h.name 100 && textOk h.link 100 && textOk h.uname 32 && textOk h.gname 32 && textOk h.pre 155
theorem entOk_cons (c : UInt8) (hc : c ≠ 0) (l : List UInt8) (n : Nat) : entOk (c :: l, (n : Int)) = textOk l n := by
  unfold entOk textOk
  have e1 : decide ((((c :: l, (n : Int)).1.length : Nat) : Int) - 1 ≤ (c :: l, (n : Int)).2) = decide (l.length ≤ n) := by
    apply decide_eq_decide.2
    simp only [List.length_cons]
    omega
  have e2 : (c :: l).contains 0 = l.contains 0 := by
    rw [List.contains_cons]
    have : ((0 : UInt8) == c) = false := beq_eq_false_iff_ne.2 (Ne.symm hc)
    rw [this, Bool.false_or]
  rw [e1, e2]
theorem ents_ok (h : Hd) : (textEntries h).all entOk = textsOk h := by
  unfold textEntries textsOk
  simp only [List.all_cons, List.all_nil, Bool.and_true]
  rw [show (110 :: h.name, (100 : Int)) = (110 :: h.name, ((100 : Nat) : Int)) from rfl, show (108 :: h.link, (100 : Int)) = (108 :: h.link, ((100 : Nat) : Int)) from rfl, show (117 :: h.uname, (32 : Int)) = (117 :: h.uname, ((32 : Nat) : Int)) from rfl, show (103 :: h.gname, (32 : Int)) = (103 :: h.gname, ((32 : Nat) : Int)) from rfl, show (112 :: h.pre, (155 : Int)) = (112 :: h.pre, ((155 : Nat) : Int)) from rfl]
  rw [entOk_cons _ (by decide), entOk_cons _ (by decide), entOk_cons _ (by decide), entOk_cons _ (by decide), entOk_cons _ (by decide)]
  simp only [Bool.and_assoc]
theorem ents_all (h : Hd) (L : List (List UInt8 × Int)) (hm : ∀ t, t ∈ L ↔ t ∈ textEntries h) : L.all entOk = textsOk h := by
  rw [← ents_ok, Bool.eq_iff_iff, List.all_eq_true, List.all_eq_true]
  exact ⟨fun H t ht => H t ((hm t).2 ht), fun H t ht => H t ((hm t).1 ht)⟩
theorem indexByte_contains (c : UInt8) : ∀ l : List UInt8, decide (0 ≤ Lib.indexByte l c) = l.contains c
  | [] => rfl
  | b :: l => by
    have ih := indexByte_contains c l
    have hge := Lib.indexByte_ge l c
    unfold Lib.indexByte
    rw [List.contains_cons]
    by_cases h : b = c
    · subst h; simp
    · have h1 : (b == c) = false := beq_eq_false_iff_ne.2 h
      have h2 : (c == b) = false := beq_eq_false_iff_ne.2 (Ne.symm h)
      rw [h1, h2, Bool.false_or, ← ih]
      simp only [Bool.false_eq_true, if_false]
      apply decide_eq_decide.2
      split
      · rename_i h3
        have := eq_of_beq h3
        rw [this]
      · rename_i h3
        have h4 : Lib.indexByte l c ≠ -1 := fun e => h3 (by rw [e]; rfl)
        omega
def numsL (h : Hd) : List Int := [h.mode, h.uid, h.gid, h.major, h.minor]
theorem mayH_parts (h : Hd) : mayH h = (textsOk h && (numsL h).all numOk && ((fieldT h.size 12).isSome && (fieldT h.mtime 12).isSome && decide (0 ≤ h.size))) := by
  unfold mayH textsOk numsL
  simp only [List.all_cons, List.all_nil, Bool.and_true, Bool.and_assoc]
theorem mayH_no_text {h : Hd} (ht : textsOk h = false) : mayH h = false := by rw [mayH_parts, ht]; rfl
theorem mayH_no_num {h : Hd} {n : Int} (hm : n ∈ numsL h) (hn : numOk n = false) : mayH h = false := by
  have : (numsL h).all numOk = false := List.all_eq_false.2 ⟨n, hm, by rw [hn]; decide⟩
  rw [mayH_parts, this, Bool.and_false, Bool.false_and]
theorem mayH_rest {h : Hd} (ht : textsOk h = true) (hn : ∀ n ∈ numsL h, numOk n = true) : mayH h = ((fieldT h.size 12).isSome && (fieldT h.mtime 12).isSome && decide (0 ≤ h.size)) := by
  have : (numsL h).all numOk = true := List.all_eq_true.2 hn
  rw [mayH_parts, this, ht, Bool.true_and, Bool.true_and]
theorem entry_fits {h : Hd} (hf : Fits h) (t : List UInt8 × Int) (ht : t ∈ textEntries h) : t.1.length ≤ 140737488351233 ∧ 0 ≤ t.2 ∧ t.2 ≤ 155 := by
  have h1 := hf.name
  have h2 := hf.link
  have h3 := hf.uname
  have h4 := hf.gname
  have h5 := hf.pre
  unfold textEntries at ht
  simp only [List.mem_cons, List.not_mem_nil, or_false] at ht
  rcases ht with rfl | rfl | rfl | rfl | rfl <;> simp only [List.length_cons] <;> omega
theorem entOk_not (t : List UInt8 × Int) : entOk t = !(decide (t.2 < (t.1.length : Int) - 1) || t.1.contains 0) := by
  unfold entOk
  rw [Bool.not_or]
  congr 1
  rw [← decide_not]
  apply decide_eq_decide.2
  omega
end Go.Proofs.YtbjbnipjeehaoaaGreatDoor.H
namespace Go.Proofs.YtbjbnipjeehaoaaGreatDoor.H
theorem choose_tape {P : Program} {q : Question} {w w1 : World} {j : Nat} (h : (choose q).run P w = .ok j w1) : w1.tape = w.tape := by
  simp only [choose, Sem.run] at h
  split at h
  · cases h; rfl
  · cases h; rfl
theorem setObj_tape {P : Program} {r : Nat} {o : Obj} {w w1 : World} {u : Unit} (h : (setObj r o).run P w = .ok u w1) : w1.tape = w.tape := by
  simp only [setObj, Sem.run] at h
  split at h
  · cases h
  · cases h; rfl
  · cases h
theorem next_tape {P : Program} {w w' : World} {ty : TypeId} {r bm since c0 : Nat} {seen : Array Nat} {es : Array MapEntry} {clock : Nat} {v : Value} (hi : w.heap[r]? = some (.mapIter (some bm) since seen c0)) (hb : w.heap[bm]? = some (.map es clock))
    (h : (Instr.next (.pointer (some ⟨r, 0, none⟩)) false ty).run P w = .ok v w') : w'.tape = w.tape := by
  have hgi : (getObj r).run P w = .ok (.mapIter (some bm) since seen c0) w := by simp [getObj, Sem.run, hi]
  have hgb : (getObj bm).run P w = .ok (.map es clock) w := by simp [getObj, Sem.run, hb]
  simp only [Instr.next, Sem.run_bind, hgi, hgb, Result.andThen, unsupported, stuck] at h
  split at h
  · cases h
  · split at h
    all_goals
      (try simp only [Sem.run_bind, Result.andThen] at h)
      split at h
      · rename_i j w1 hc
        have h1 := choose_tape hc
        split at h
        · simp only [Sem.run_bind, Result.andThen] at h
          split at h
          · rename_i hs
            have h2 := setObj_tape hs
            cases h
            exact h2.trans h1
          · cases h
        · cases h; exact h1
        · cases h
      · cases h
end Go.Proofs.YtbjbnipjeehaoaaGreatDoor.H
