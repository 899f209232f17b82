/- A header as data, its block, what bytes say: the plain law. -/
import Derived.Test.YtpmiddhdgidimaaGreatDoorNumField
set_option linter.unusedVariables false
set_option linter.unusedSimpArgs false
namespace Go.Proofs.YtpmiddhdgidimaaGreatDoor

/-- A header. -/
structure Hd where
  name : List UInt8
  mode : Int
  uid : Int
  gid : Int
  size : Int
  mtime : Int
  typ : UInt8
  link : List UInt8
  uname : List UInt8
  gname : List UInt8
  major : Int
  minor : Int
  pre : List UInt8
deriving DecidableEq
def hd0 : Hd := ⟨[], 0, 0, 0, 0, 0, 0, [], [], [], 0, 0, []⟩
def textOk (l : List UInt8) (n : Nat) : Bool := decide (l.length ≤ n) && !l.contains 0
def numOk (n : Int) : Bool := (fieldT n 8).isSome && decide (0 ≤ n)
def mayH (h : Hd) : Bool :=
  textOk h.name 100 && textOk h.link 100 && textOk h.uname 32 && textOk h.gname 32 && textOk h.pre 155 &&
  (numOk h.mode && numOk h.uid && numOk h.gid && numOk h.major && numOk h.minor) && ((fieldT h.size 12).isSome && (fieldT h.mtime 12).isSome && decide (0 ≤ h.size))
def fill (l : List UInt8) (n : Nat) : List UInt8 := l ++ List.replicate (n - l.length) 0
def fld (n : Int) (w : Nat) : List UInt8 := (fieldT n w).getD []
def magicL : List UInt8 := [117, 115, 116, 97, 114, 0, 48, 48]
def blockA (h : Hd) : List UInt8 := fill h.name 100 ++ fld h.mode 8 ++ fld h.uid 8 ++ fld h.gid 8 ++ fld h.size 12 ++ fld h.mtime 12
def blockB (h : Hd) : List UInt8 := [h.typ] ++ fill h.link 100 ++ magicL ++ fill h.uname 32 ++ fill h.gname 32 ++ fld h.major 8 ++ fld h.minor 8 ++ fill h.pre 155 ++ List.replicate 12 0
def sumOf (l : List UInt8) : Nat := l.foldl (fun a c => a + c.toNat) 0
def sumT (n : Nat) : List UInt8 := octD 6 n ++ [0, 32]
def sumN (a b : List UInt8) : Nat := 256 + sumOf a + sumOf b
def blockT (h : Hd) : List UInt8 := blockA h ++ sumT (sumN (blockA h) (blockB h)) ++ blockB h
def putT (h : Hd) : List UInt8 := if mayH h then blockT h else []
/- Lengths. -/
theorem fill_length (l : List UInt8) (n : Nat) (h : l.length ≤ n) : (fill l n).length = n := by unfold fill; simp; omega
theorem textOk_le {l : List UInt8} {n : Nat} (h : textOk l n = true) : l.length ≤ n ∧ ∀ c ∈ l, c ≠ 0 := by
  unfold textOk at h
  simp only [Bool.and_eq_true, decide_eq_true_eq, Bool.not_eq_true', List.contains_eq_mem, decide_eq_false_iff_not] at h
  exact ⟨h.1, fun c hc e => h.2 (e ▸ hc)⟩
theorem fld_length {n : Int} {w : Nat} (h : (fieldT n w).isSome = true) (hw : 0 < w) : (fld n w).length = w := by
  obtain ⟨l, hl⟩ := Option.isSome_iff_exists.1 h
  unfold fld
  rw [hl]
  exact field_length hl hw
structure MayH (h : Hd) : Prop where
  name : textOk h.name 100 = true
  link : textOk h.link 100 = true
  uname : textOk h.uname 32 = true
  gname : textOk h.gname 32 = true
  pre : textOk h.pre 155 = true
  mode : (fieldT h.mode 8).isSome = true ∧ 0 ≤ h.mode
  uid : (fieldT h.uid 8).isSome = true ∧ 0 ≤ h.uid
  gid : (fieldT h.gid 8).isSome = true ∧ 0 ≤ h.gid
  major : (fieldT h.major 8).isSome = true ∧ 0 ≤ h.major
  minor : (fieldT h.minor 8).isSome = true ∧ 0 ≤ h.minor
  size : (fieldT h.size 12).isSome = true ∧ 0 ≤ h.size
  mtime : (fieldT h.mtime 12).isSome = true
theorem mayH_iff (h : Hd) : mayH h = true ↔ MayH h := by
  unfold mayH numOk
  simp only [Bool.and_eq_true, decide_eq_true_eq]
  constructor
  · rintro ⟨⟨⟨⟨⟨⟨h1, h2⟩, h3⟩, h4⟩, h5⟩, ⟨⟨⟨⟨h6, h7⟩, h8⟩, h9⟩, h10⟩⟩, ⟨⟨h11, h12⟩, h13⟩⟩
    exact ⟨h1, h2, h3, h4, h5, h6, h7, h8, h9, h10, ⟨h11, h13⟩, h12⟩
  · rintro ⟨h1, h2, h3, h4, h5, h6, h7, h8, h9, h10, ⟨h11, h13⟩, h12⟩
    exact ⟨⟨⟨⟨⟨⟨h1, h2⟩, h3⟩, h4⟩, h5⟩, ⟨⟨⟨⟨h6, h7⟩, h8⟩, h9⟩, h10⟩⟩, ⟨⟨h11, h12⟩, h13⟩⟩
theorem blockA_length {h : Hd} (m : MayH h) : (blockA h).length = 148 := by
  unfold blockA
  simp only [List.length_append, fill_length _ _ (textOk_le m.name).1, fld_length m.mode.1 (by decide), fld_length m.uid.1 (by decide), fld_length m.gid.1 (by decide), fld_length m.size.1 (by decide), fld_length m.mtime (by decide)]
theorem blockB_length {h : Hd} (m : MayH h) : (blockB h).length = 356 := by
  unfold blockB magicL
  simp only [List.length_append, fill_length _ _ (textOk_le m.link).1, fill_length _ _ (textOk_le m.uname).1, fill_length _ _ (textOk_le m.gname).1, fill_length _ _ (textOk_le m.pre).1, fld_length m.major.1 (by decide), fld_length m.minor.1 (by decide), List.length_replicate, List.length_cons, List.length_nil]
theorem sumT_length (n : Nat) : (sumT n).length = 8 := by unfold sumT; rw [List.length_append, octD_length]; rfl
theorem blockT_length {h : Hd} (m : MayH h) : (blockT h).length = 512 := by
  unfold blockT
  rw [List.length_append, List.length_append, blockA_length m, blockB_length m, sumT_length]
/- What stands ahead of the first byte 0. -/
def ahead (l : List UInt8) : List UInt8 := l.takeWhile (fun c => c != 0)
theorem ahead_fill (l : List UInt8) (n : Nat) (h : ∀ c ∈ l, c ≠ 0) : ahead (fill l n) = l := by
  unfold ahead fill
  rw [List.takeWhile_append_of_pos (by intro c hc; simpa using h c hc)]
  cases n - l.length with
  | zero => simp
  | succ k => simp [List.replicate_succ]
/-- A part of a block. -/
def part (s : List UInt8) (a n : Nat) : List UInt8 := (s.drop a).take n
theorem part_append (x y z : List UInt8) (a n : Nat) (ha : x.length = a) (hn : y.length = n) : part (x ++ (y ++ z)) a n = y := by
  unfold part
  rw [← ha, List.drop_left, ← hn, List.take_left]
/-- What bytes say: the numbers of the fields. -/
def numAt (s : List UInt8) (a w : Nat) : Option Int := readFieldT (part s a w)
def readH (s : List UInt8) : Option Hd :=
  match numAt s 100 8, numAt s 108 8, numAt s 116 8, numAt s 124 12, numAt s 136 12, numAt s 329 8, numAt s 337 8 with
  | some mode, some uid, some gid, some size, some mtime, some major, some minor =>
    some ⟨ahead (part s 0 100), mode, uid, gid, size, mtime, s.getD 156 0, ahead (part s 157 100), ahead (part s 265 32), ahead (part s 297 32), major, minor, ahead (part s 345 155)⟩
  | _, _, _, _, _, _, _ => none
/-- What bytes are: a header, or an error's number. -/
def getT (s : List UInt8) : Except Int Hd :=
  if s.length < 512 then .error 5
  else if (s.take 512).all (fun c => c == 0) = true then .error 2
  else match readH (s.take 512) with
    | some h => if putT h = s.take 512 then .ok h else .error 4
    | none => .error 4
/- The block's pieces. -/
def pieces (h : Hd) : List (List UInt8) :=
  [fill h.name 100, fld h.mode 8, fld h.uid 8, fld h.gid 8, fld h.size 12, fld h.mtime 12, sumT (sumN (blockA h) (blockB h)), [h.typ], fill h.link 100, magicL, fill h.uname 32, fill h.gname 32, fld h.major 8, fld h.minor 8, fill h.pre 155, List.replicate 12 0]
theorem block_pieces (h : Hd) : blockT h = (pieces h).flatten := by
  unfold blockT
  have eA : blockA h = fill h.name 100 ++ (fld h.mode 8 ++ (fld h.uid 8 ++ (fld h.gid 8 ++ (fld h.size 12 ++ fld h.mtime 12)))) := by unfold blockA; simp only [List.append_assoc]
  have eB : blockB h = [h.typ] ++ (fill h.link 100 ++ (magicL ++ (fill h.uname 32 ++ (fill h.gname 32 ++ (fld h.major 8 ++ (fld h.minor 8 ++ (fill h.pre 155 ++ List.replicate 12 0))))))) := by unfold blockB; simp only [List.append_assoc]
  unfold pieces
  generalize sumT (sumN (blockA h) (blockB h)) = S
  rw [eA, eB]
  simp only [List.flatten_cons, List.flatten_nil, List.append_assoc, List.append_nil]
def lens : List Nat := [100, 8, 8, 8, 12, 12, 8, 1, 100, 8, 32, 32, 8, 8, 155, 12]
theorem pieces_lens {h : Hd} (m : MayH h) : (pieces h).map List.length = lens := by
  unfold pieces lens magicL
  simp only [List.map_cons, List.map_nil, fill_length _ _ (textOk_le m.name).1, fill_length _ _ (textOk_le m.link).1, fill_length _ _ (textOk_le m.uname).1, fill_length _ _ (textOk_le m.gname).1, fill_length _ _ (textOk_le m.pre).1, fld_length m.mode.1 (by decide), fld_length m.uid.1 (by decide), fld_length m.gid.1 (by decide), fld_length m.size.1 (by decide), fld_length m.mtime (by decide), fld_length m.major.1 (by decide), fld_length m.minor.1 (by decide), sumT_length, List.length_replicate, List.length_cons, List.length_nil]
theorem part_flat : ∀ (L : List (List UInt8)) (ls : List Nat) (j a n : Nat) (y : List UInt8), L.map List.length = ls → L[j]? = some y → (ls.take j).sum = a → ls[j]? = some n → part L.flatten a n = y
  | [], _, j, a, n, y, _, h, _, _ => by simp at h
  | x :: L, [], j, a, n, y, h, _, _, _ => by simp at h
  | x :: L, l :: ls, 0, a, n, y, h, h2, h3, h4 => by
    simp only [List.map_cons, List.cons.injEq] at h
    simp only [List.getElem?_cons_zero, Option.some.injEq] at h2 h4
    simp at h3
    subst h2 h4 h3
    unfold part
    rw [List.flatten_cons, List.drop_zero, ← h.1, List.take_left]
  | x :: L, l :: ls, j + 1, a, n, y, h, h2, h3, h4 => by
    simp only [List.map_cons, List.cons.injEq] at h
    simp only [List.getElem?_cons_succ] at h2 h4
    simp only [List.take_succ_cons, List.sum_cons] at h3
    have ih := part_flat L ls j (ls.take j).sum n y h.2 h2 rfl h4
    unfold part at ih ⊢
    rw [List.flatten_cons, ← h3, ← h.1, ← List.drop_drop, List.drop_left]
    exact ih
theorem part_block {h : Hd} (m : MayH h) (j a n : Nat) (y : List UInt8) (hy : (pieces h)[j]? = some y) (ha : (lens.take j).sum = a) (hn : lens[j]? = some n) : part (blockT h) a n = y := by
  rw [block_pieces]
  exact part_flat _ lens j a n y (pieces_lens m) hy ha hn
theorem fld_some {n : Int} {w : Nat} (h : (fieldT n w).isSome = true) : fieldT n w = some (fld n w) := by
  obtain ⟨l, hl⟩ := Option.isSome_iff_exists.1 h
  unfold fld
  rw [hl]; rfl
/-- Numbers that the machine has. -/
structure Ints (h : Hd) : Prop where
  mode : -9223372036854775808 ≤ h.mode ∧ h.mode ≤ 9223372036854775807
  uid : -9223372036854775808 ≤ h.uid ∧ h.uid ≤ 9223372036854775807
  gid : -9223372036854775808 ≤ h.gid ∧ h.gid ≤ 9223372036854775807
  size : -9223372036854775808 ≤ h.size ∧ h.size ≤ 9223372036854775807
  mtime : -9223372036854775808 ≤ h.mtime ∧ h.mtime ≤ 9223372036854775807
  major : -9223372036854775808 ≤ h.major ∧ h.major ≤ 9223372036854775807
  minor : -9223372036854775808 ≤ h.minor ∧ h.minor ≤ 9223372036854775807
theorem numAt_block {h : Hd} (m : MayH h) (j a w : Nat) (n : Int) (hw : w = 8 ∨ w = 12) (hy : (pieces h)[j]? = some (fld n w)) (ha : (lens.take j).sum = a) (hn : lens[j]? = some w) (hf : (fieldT n w).isSome = true) (hi : -9223372036854775808 ≤ n ∧ n ≤ 9223372036854775807) : numAt (blockT h) a w = some n := by
  unfold numAt
  rw [part_block m j a w _ hy ha hn]
  exact field_back w n _ hw hi.1 hi.2 (fld_some hf)
theorem getD_part (s : List UInt8) (a : Nat) (c : UInt8) (h : part s a 1 = [c]) : s.getD a 0 = c := by
  unfold part at h
  cases hd : s.drop a with
  | nil => rw [hd] at h; simp at h
  | cons x r =>
    rw [hd] at h
    simp at h
    subst h
    have h1 : a < s.length := by
      by_cases e : a < s.length
      · exact e
      · rw [List.drop_eq_nil_of_le (by omega)] at hd; cases hd
    rw [List.drop_eq_getElem_cons h1] at hd
    injection hd with h2 _
    rw [List.getD_eq_getElem?_getD, List.getElem?_eq_getElem h1]
    exact h2
/-- A header is told again by its block. -/
theorem read_back {h : Hd} (m : MayH h) (i : Ints h) : readH (blockT h) = some h := by
  unfold readH
  rw [numAt_block m 1 100 8 h.mode (.inl rfl) rfl rfl rfl m.mode.1 i.mode, numAt_block m 2 108 8 h.uid (.inl rfl) rfl rfl rfl m.uid.1 i.uid, numAt_block m 3 116 8 h.gid (.inl rfl) rfl rfl rfl m.gid.1 i.gid,
    numAt_block m 4 124 12 h.size (.inr rfl) rfl rfl rfl m.size.1 i.size, numAt_block m 5 136 12 h.mtime (.inr rfl) rfl rfl rfl m.mtime i.mtime, numAt_block m 12 329 8 h.major (.inl rfl) rfl rfl rfl m.major.1 i.major, numAt_block m 13 337 8 h.minor (.inl rfl) rfl rfl rfl m.minor.1 i.minor]
  simp only
  rw [part_block m 0 0 100 _ rfl rfl rfl, part_block m 8 157 100 _ rfl rfl rfl, part_block m 10 265 32 _ rfl rfl rfl, part_block m 11 297 32 _ rfl rfl rfl, part_block m 14 345 155 _ rfl rfl rfl, getD_part _ 156 h.typ (part_block m 7 156 1 _ rfl rfl rfl),
    ahead_fill _ _ (textOk_le m.name).2, ahead_fill _ _ (textOk_le m.link).2, ahead_fill _ _ (textOk_le m.uname).2, ahead_fill _ _ (textOk_le m.gname).2, ahead_fill _ _ (textOk_le m.pre).2]
theorem block_magic {h : Hd} (m : MayH h) : (blockT h).getD 257 0 = 117 := by
  have := part_block m 9 257 8 magicL rfl rfl rfl
  unfold part magicL at this
  cases hd : (blockT h).drop 257 with
  | nil => rw [hd] at this; simp at this
  | cons x r =>
    refine getD_part _ _ _ ?_
    unfold part
    rw [hd] at this ⊢
    simp at this
    simp [this.1]
theorem not_zeros {s : List UInt8} {i : Nat} (h : s.getD i 0 ≠ 0) : ¬ (s.all (fun c => c == 0) = true) := by
  intro ha
  apply h
  rw [List.getD_eq_getElem?_getD]
  cases hg : s[i]? with
  | none => rfl
  | some c =>
    have := List.all_eq_true.1 ha c (List.mem_of_getElem? hg)
    simpa using this
theorem get_back {h : Hd} (m : MayH h) (i : Ints h) (t : List UInt8) : getT (blockT h ++ t) = .ok h := by
  have hl := blockT_length m
  unfold getT
  rw [if_neg (by rw [List.length_append]; omega)]
  have ht : (blockT h ++ t).take 512 = blockT h := by rw [← hl, List.take_left]
  rw [ht, if_neg (not_zeros (i := 257) (by rw [block_magic m]; decide)), read_back m i]
  simp only
  unfold putT
  rw [if_pos ((mayH_iff h).2 m), if_pos rfl]
theorem get_short (s : List UInt8) (h : s.length < 512) : getT s = .error 5 := by unfold getT; rw [if_pos h]
theorem get_zeros : getT (List.replicate 512 0) = .error 2 := by
  unfold getT
  rw [if_neg (by rw [List.length_replicate]; decide), List.take_of_length_le (by rw [List.length_replicate]; decide), if_pos]
  rw [List.all_eq_true]
  intro c hc
  rw [List.eq_of_mem_replicate hc]
  rfl
/- A byte turned. -/
theorem part_sum {h : Hd} (m : MayH h) : part (blockT h) 148 8 = sumT (sumN (blockA h) (blockB h)) := part_block m 6 148 8 _ rfl rfl rfl
theorem take_block {h : Hd} (m : MayH h) : (blockT h).take 148 = blockA h := by
  unfold blockT
  rw [List.append_assoc, ← blockA_length m, List.take_left]
theorem drop_block {h : Hd} (m : MayH h) : (blockT h).drop 156 = blockB h := by
  unfold blockT
  have : (blockA h ++ sumT (sumN (blockA h) (blockB h))).length = 156 := by rw [List.length_append, blockA_length m, sumT_length]
  rw [← this, List.drop_left]
theorem sumOf_cons (c : UInt8) (l : List UInt8) : sumOf (c :: l) = c.toNat + sumOf l := by
  have h : ∀ (l : List UInt8) (a : Nat), l.foldl (fun a c => a + c.toNat) a = a + l.foldl (fun a c => a + c.toNat) 0 := by
    intro l
    induction l with
    | nil => intro a; rfl
    | cons x l ih => intro a; rw [List.foldl_cons, ih, List.foldl_cons, ih (0 + x.toNat)]; omega
  unfold sumOf
  rw [List.foldl_cons, h]
  omega
theorem sumOf_append (a b : List UInt8) : sumOf (a ++ b) = sumOf a + sumOf b := by
  induction a with
  | nil => simp [sumOf]
  | cons c a ih => rw [List.cons_append, sumOf_cons, sumOf_cons, ih]; omega
theorem sumOf_le (l : List UInt8) : sumOf l ≤ 255 * l.length := by
  induction l with
  | nil => simp [sumOf]
  | cons c l ih => rw [sumOf_cons, List.length_cons]; have := c.toNat_lt; omega
theorem sumOf_set (l : List UInt8) (i : Nat) (v : UInt8) (h : i < l.length) : sumOf (l.set i v) + (l.getD i 0).toNat = sumOf l + v.toNat := by
  induction l generalizing i with
  | nil => simp at h
  | cons c l ih =>
    cases i with
    | zero => rw [List.set_cons_zero, sumOf_cons, sumOf_cons, List.getD_cons_zero]; omega
    | succ i =>
      have := ih i (by simpa using h)
      rw [List.set_cons_succ, sumOf_cons, sumOf_cons, List.getD_cons_succ]
      omega
theorem sumT_inj {m n : Nat} (hm : m < 262144) (hn : n < 262144) (h : sumT m = sumT n) : m = n := by
  unfold sumT at h
  have h2 : octD 6 m = octD 6 n := (List.append_inj h (by rw [octD_length, octD_length])).1
  have h3 := congrArg foldO h2
  rw [foldO_octD 6 m (by simpa using hm), foldO_octD 6 n (by simpa using hn)] at h3
  exact h3
theorem sum_lt {h : Hd} (m : MayH h) : sumN (blockA h) (blockB h) < 262144 := by
  have h1 := sumOf_le (blockA h)
  have h2 := sumOf_le (blockB h)
  rw [blockA_length m] at h1
  rw [blockB_length m] at h2
  unfold sumN
  omega
theorem set_turn {h h' : Hd} (m : MayH h) (m' : MayH h') (p : Nat) (v : UInt8) (hp : p < 512) (hv : v ≠ (blockT h).getD p 0) (he : blockT h' = (blockT h).set p v) : False := by
  have hl := blockT_length m
  have e1 := part_sum m
  have e2 := part_sum m'
  have eA : blockA h' = ((blockT h).set p v).take 148 := by rw [← take_block m', he]
  have eB : blockB h' = ((blockT h).set p v).drop 156 := by rw [← drop_block m', he]
  rw [he] at e2
  have hne : v.toNat ≠ ((blockT h).getD p 0).toNat := fun e => hv (UInt8.toNat_inj.1 e)
  by_cases h1 : p < 148
  · have eA2 : blockA h' = (blockA h).set p v := by rw [eA, ← take_block m, List.take_set]
    have eB2 : blockB h' = blockB h := by rw [eB, ← drop_block m, List.drop_set, if_pos (by omega)]
    have hpart : part ((blockT h).set p v) 148 8 = part (blockT h) 148 8 := by
      unfold part
      rw [List.drop_set, if_pos (by omega)]
    rw [hpart, e1] at e2
    have hs := sumT_inj (sum_lt m) (sum_lt m') e2
    have hset := sumOf_set (blockA h) p v (by rw [blockA_length m]; exact h1)
    have hg : (blockA h).getD p 0 = (blockT h).getD p 0 := by
      rw [← take_block m, List.getD_eq_getElem?_getD, List.getD_eq_getElem?_getD, List.getElem?_take_of_lt h1]
    unfold sumN at hs
    rw [eA2, eB2] at hs
    rw [hg] at hset
    omega
  · by_cases h2 : 156 ≤ p
    · have eA2 : blockA h' = blockA h := by
        rw [eA, ← take_block m, List.take_set, List.set_eq_of_length_le (by rw [List.length_take]; omega)]
      have eB2 : blockB h' = (blockB h).set (p - 156) v := by rw [eB, ← drop_block m, List.drop_set, if_neg (by omega)]
      have hpart : part ((blockT h).set p v) 148 8 = part (blockT h) 148 8 := by
        unfold part
        rw [List.drop_set, if_neg (by omega), List.take_set, List.set_eq_of_length_le (by rw [List.length_take]; omega)]
      rw [hpart, e1] at e2
      have hs := sumT_inj (sum_lt m) (sum_lt m') e2
      have hset := sumOf_set (blockB h) (p - 156) v (by rw [blockB_length m]; omega)
      have hg : (blockB h).getD (p - 156) 0 = (blockT h).getD p 0 := by
        rw [← drop_block m, List.getD_eq_getElem?_getD, List.getD_eq_getElem?_getD, List.getElem?_drop, show 156 + (p - 156) = p by omega]
      unfold sumN at hs
      rw [eA2, eB2] at hs
      rw [hg] at hset
      omega
    · have eA2 : blockA h' = blockA h := by
        rw [eA, ← take_block m, List.take_set, List.set_eq_of_length_le (by rw [List.length_take]; omega)]
      have eB2 : blockB h' = blockB h := by rw [eB, ← drop_block m, List.drop_set, if_pos (by omega)]
      rw [eA2, eB2, ← e1] at e2
      have hx := congrArg (fun l => l.getD (p - 148) 0) e2
      unfold part at hx
      rw [List.getD_eq_getElem?_getD, List.getD_eq_getElem?_getD, List.getElem?_take_of_lt (by omega), List.getElem?_take_of_lt (by omega), List.getElem?_drop, List.getElem?_drop, show 148 + (p - 148) = p by omega, List.getElem?_set_self (by omega)] at hx
      exact hv (by rw [List.getD_eq_getElem?_getD]; exact hx)
theorem block_magic2 {h : Hd} (m : MayH h) : (blockT h).getD 258 0 = 115 := by
  have := part_block m 9 257 8 magicL rfl rfl rfl
  have hx := congrArg (fun l => l.getD 1 0) this
  unfold part at hx
  rw [List.getD_eq_getElem?_getD, List.getElem?_take_of_lt (by omega), List.getElem?_drop] at hx
  rw [List.getD_eq_getElem?_getD]
  exact hx
/-- A block of which one byte is turned is none. -/
theorem get_turned {h : Hd} (m : MayH h) (p : Nat) (v : UInt8) (hp : p < 512) (hv : v ≠ (blockT h).getD p 0) : getT ((blockT h).set p v) = .error 4 := by
  have hl := blockT_length m
  have hl2 : ((blockT h).set p v).length = 512 := by rw [List.length_set, hl]
  have hnz : ¬ (((blockT h).set p v).all (fun c => c == 0) = true) := by
    by_cases e : p = 257
    · refine not_zeros (i := 258) ?_
      rw [List.getD_eq_getElem?_getD, List.getElem?_set_ne (by omega), ← List.getD_eq_getElem?_getD, block_magic2 m]
      decide
    · refine not_zeros (i := 257) ?_
      rw [List.getD_eq_getElem?_getD, List.getElem?_set_ne e, ← List.getD_eq_getElem?_getD, block_magic m]
      decide
  unfold getT
  rw [if_neg (by omega), List.take_of_length_le (by omega), if_neg hnz]
  split
  · rename_i h' hr
    rw [if_neg]
    intro he
    unfold putT at he
    split at he
    · rename_i hm'
      exact set_turn m ((mayH_iff h').1 hm') p v hp hv he
    · rw [← he] at hl2; simp at hl2
  · rfl
/- As the reference reckons it. -/
def numAt0 (s : List UInt8) (a w : Nat) : Int := (numAt s a w).getD 0
def readH0 (s : List UInt8) : Hd :=
  ⟨ahead (part s 0 100), numAt0 s 100 8, numAt0 s 108 8, numAt0 s 116 8, numAt0 s 124 12, numAt0 s 136 12, s.getD 156 0, ahead (part s 157 100), ahead (part s 265 32), ahead (part s 297 32), numAt0 s 329 8, numAt0 s 337 8, ahead (part s 345 155)⟩
def getR (s : List UInt8) : Except Int Hd :=
  if s.length < 512 then .error 5
  else if (s.take 512).all (fun c => c == 0) = true then .error 2
  else if putT (readH0 (s.take 512)) = s.take 512 then .ok (readH0 (s.take 512)) else .error 4
theorem readFieldT_range {s : List UInt8} {n : Int} (hs : s.length = 8 ∨ s.length = 12) (h : readFieldT s = some n) : -9223372036854775808 ≤ n ∧ n ≤ 9223372036854775807 := by
  unfold readFieldT at h
  split at h
  · rename_i m hm
    injection h with h
    subst h
    unfold readOctT at hm
    split at hm
    · rename_i hc
      injection hm with hm
      subst hm
      have h2 := (octOk_iff _ _).1 hc.1
      have h8 : 8 ^ (s.length - 1) ≤ 8589934592 := by rcases hs with e | e <;> rw [e] <;> decide
      omega
    · cases hm
  · split at h
    · rename_i m hm
      split at h
      · injection h with h
        subst h
        unfold readBaseT at hm
        split at hm
        · injection hm with hm
          subst hm
          unfold readBV
          rw [IntKind.wrap_i64]
          omega
        · cases hm
      · cases h
    · cases h
theorem numAt_range {s : List UInt8} {a w : Nat} (hs : a + w ≤ s.length) (hw : w = 8 ∨ w = 12) : -9223372036854775808 ≤ numAt0 s a w ∧ numAt0 s a w ≤ 9223372036854775807 := by
  unfold numAt0
  cases h : numAt s a w with
  | none => simp
  | some n =>
    unfold numAt at h
    exact readFieldT_range (by unfold part; rw [List.length_take, List.length_drop]; omega) h
theorem readH0_ints {s : List UInt8} (h : s.length = 512) : Ints (readH0 s) :=
  ⟨numAt_range (by omega) (.inl rfl), numAt_range (by omega) (.inl rfl), numAt_range (by omega) (.inl rfl), numAt_range (by omega) (.inr rfl), numAt_range (by omega) (.inr rfl), numAt_range (by omega) (.inl rfl), numAt_range (by omega) (.inl rfl)⟩
theorem readH_some {s : List UInt8} {h : Hd} (hr : readH s = some h) : readH0 s = h := by
  unfold readH at hr
  split at hr
  · rename_i mode uid gid size mtime major minor h1 h2 h3 h4 h5 h6 h7
    injection hr with hr
    unfold readH0 numAt0
    rw [h1, h2, h3, h4, h5, h6, h7, ← hr]
    rfl
  · cases hr
theorem getR_eq (s : List UInt8) : getR s = getT s := by
  unfold getR getT
  by_cases h1 : s.length < 512
  · rw [if_pos h1, if_pos h1]
  · rw [if_neg h1, if_neg h1]
    by_cases h2 : (s.take 512).all (fun c => c == 0) = true
    · rw [if_pos h2, if_pos h2]
    · rw [if_neg h2, if_neg h2]
      have hl : (s.take 512).length = 512 := by rw [List.length_take]; omega
      generalize s.take 512 = t at *
      cases hr : readH t with
      | some h => simp only; rw [readH_some hr]
      | none =>
        simp only
        rw [if_neg]
        intro he
        have hi := readH0_ints hl
        generalize readH0 t = h at *
        unfold putT at he
        split at he
        · rename_i hm
          have := read_back ((mayH_iff h).1 hm) hi
          rw [he, hr] at this
          cases this
        · rw [← he] at hl; simp at hl
/- What Put gives. -/
theorem put_of {h : Hd} (m : MayH h) : putT h = blockT h := by unfold putT; rw [if_pos ((mayH_iff h).2 m)]
theorem put_none {h : Hd} (m : mayH h = false) : putT h = [] := by unfold putT; rw [m]; rfl
end Go.Proofs.YtpmiddhdgidimaaGreatDoor
