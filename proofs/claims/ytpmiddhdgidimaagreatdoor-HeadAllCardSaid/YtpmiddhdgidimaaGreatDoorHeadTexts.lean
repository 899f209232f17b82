/- head.texts. -/
import Derived.Test.YtpmiddhdgidimaaGreatDoorHeadMap
import Derived.WideMake
set_option linter.unusedVariables false
set_option linter.unusedSimpArgs false
namespace Go.Proofs.YtpmiddhdgidimaaGreatDoor
open Go.RowKit Go.Proofs.YtpmiddhdgidimaaGreatDoorW.PrintWords

/-- What texts makes. -/
def textEntries (h : Hd) : List (List UInt8 × Int) := [(110 :: h.name, 100), (108 :: h.link, 100), (117 :: h.uname, 32), (103 :: h.gname, 32), (112 :: h.pre, 155)]
/-- How many are not yet done. -/
def cnt (b1 b2 b3 b4 b5 : Bool) : Nat := (!b1).toNat + (!b2).toNat + (!b3).toNat + (!b4).toNat + (!b5).toNat
/-- The operations that have come up. -/
def maskOf (b1 b2 b3 b4 b5 : Bool) : Array Bool := #[true, true, true, true, b1, true, true, true, b2, true, true, true, b3, true, true, true, b4, true, true, true, b5, false, false]
theorem apply_key {P : Program} {md : Region.Mode} {ops : Array Oper} {Q : Exit → Act → World → Prop} {S : World → Prop} {a : Act} {fuel : Nat} {listed : Array Bool} {w1 : World} (J : Bool → Bool → Bool → Bool → Bool → World → Prop)
    (hl : listed = maskOf false false false false false) (hf : fuel = 7) (h0 : J false false false false false w1)
    (step : ∀ b1 b2 b3 b4 b5 W, J b1 b2 b3 b4 b5 W → (∀ c1 c2 c3 c4 c5 W', cnt c1 c2 c3 c4 c5 < cnt b1 b2 b3 b4 b5 → J c1 c2 c3 c4 c5 W' → wpAnyH P md ops Q S (cnt c1 c2 c3 c4 c5 + 2) (maskOf c1 c2 c3 c4 c5) a W') → wpAnyH P md ops Q S (cnt b1 b2 b3 b4 b5 + 2) (maskOf b1 b2 b3 b4 b5) a W) :
    wpAnyH P md ops Q S fuel listed a w1 := by
  have key : ∀ n b1 b2 b3 b4 b5 W, cnt b1 b2 b3 b4 b5 = n → J b1 b2 b3 b4 b5 W → wpAnyH P md ops Q S (cnt b1 b2 b3 b4 b5 + 2) (maskOf b1 b2 b3 b4 b5) a W := by
    intro n
    induction n using Nat.strongRecOn with
    | ind n ih =>
      intro b1 b2 b3 b4 b5 W hc hJ
      exact step b1 b2 b3 b4 b5 W hJ (fun c1 c2 c3 c4 c5 W' hlt hJ' => ih _ (by omega) c1 c2 c3 c4 c5 W' rfl hJ')
  rw [hl, hf]
  exact key 5 false false false false false w1 rfl h0
/-- The entries that are done. -/
def ents (h : Hd) (b1 b2 b3 b4 b5 : Bool) : List (List UInt8 × Int) :=
  (if b1 then [(110 :: h.name, 100)] else []) ++ (if b2 then [(108 :: h.link, 100)] else []) ++ (if b3 then [(117 :: h.uname, 32)] else []) ++ (if b4 then [(103 :: h.gname, 32)] else []) ++ (if b5 then [(112 :: h.pre, 155)] else [])
set_option maxHeartbeats 40000000 in
set_option maxRecDepth 100000 in
theorem texts_any (h : Hd) (w : World) (hf : Fits h) :
    Calls Tryz.prog 24 #[.agg (hdCells h)] w fun e w' => ∃ g L, e = .returned (.map (some g)) ∧ Holds w' g L ∧ (∀ t, t ∈ L ↔ t ∈ textEntries h) ∧ w.heap.size ≤ g ∧ Below w.heap.size w w' := by
  have HB0 := Aside0.mk (below_alloc (Below.refl w.heap.size w) (.cells (hdCells h) 23))
  have g0 := heap_alloc_new w (.cells (hdCells h) 23)
  obtain ⟨w0, hw0⟩ : ∃ x, x = w.alloc (.cells (hdCells h) 23) := ⟨_, rfl⟩
  have hle : w.heap.size ≤ w0.heap.size := by rw [hw0]; simp
  rw [← hw0] at HB0 g0
  obtain ⟨name, mode, uid, gid, size, mtime, typ, link, uname, gname, major, minor, pre⟩ := h
  obtain ⟨hi, h1, h2, h3, h4, h5⟩ := hf
  simp only at h1 h2 h3 h4 h5
  unfold hdCells at hw0 g0 ⊢
  simp only at hw0 g0 ⊢
  have a1 := fun W => str_add (P := Tryz.prog) (s := ⟨#[110]⟩) (t := mkS name) (a := [110]) (b := name) rfl rfl rfl (by simp; omega) W
  have a2 := fun W => str_add (P := Tryz.prog) (s := ⟨#[108]⟩) (t := mkS link) (a := [108]) (b := link) rfl rfl rfl (by simp; omega) W
  have a3 := fun W => str_add (P := Tryz.prog) (s := ⟨#[117]⟩) (t := mkS uname) (a := [117]) (b := uname) rfl rfl rfl (by simp; omega) W
  have a4 := fun W => str_add (P := Tryz.prog) (s := ⟨#[103]⟩) (t := mkS gname) (a := [103]) (b := gname) rfl rfl rfl (by simp; omega) W
  have a5 := fun W => str_add (P := Tryz.prog) (s := ⟨#[112]⟩) (t := mkS pre) (a := [112]) (b := pre) rfl rfl rfl (by simp; omega) W
  go_enter Tryz.func24, Tryz.ntmps24
  go_wp2_with fail
  rw [← hw0]
  clear hw0
  have c0 := blk_cell g0 0
  have c7 := blk_cell g0 7
  have c8 := blk_cell g0 8
  have c9 := blk_cell g0 9
  have c12 := blk_cell g0 12
  refine wp_region_noPanic ?_
  refine wp_region_held_drew (S := fun W => W.cell? ⟨w.heap.size, 0, none⟩ = some (.string (mkS name)) ∧ W.cell? ⟨w.heap.size, 7, none⟩ = some (.string (mkS link)) ∧ W.cell? ⟨w.heap.size, 8, none⟩ = some (.string (mkS uname)) ∧ W.cell? ⟨w.heap.size, 9, none⟩ = some (.string (mkS gname)) ∧ W.cell? ⟨w.heap.size, 12, none⟩ = some (.string (mkS pre))) (by kernel_rfl) ⟨c0, c7, c8, c9, c12⟩ (fun hHeld => ?_)
  refine wpAnyH_take (i := 1) (oi := _) (v := ?_) rfl (by kernel_rfl) (by kernel_rfl) (by kernel_rfl) (fun _ _ _ h => h) (Or.inl ⟨by rfl, ?_⟩) (by assumption) ?_
  rotate_left
  · (intro w hSw; (try dsimp only at hSw); go_simp)
    try with_reducible rfl
  try simp only [Act.put, List.setIfInBounds_toArray, List.set_cons_zero, List.set_cons_succ]
  refine wpAnyH_take (i := 2) (oi := _) (v := ?_) rfl (by kernel_rfl) (by kernel_rfl) (by kernel_rfl) (fun _ _ _ h => h) (Or.inl ⟨by rfl, ?_⟩) (by assumption) ?_
  rotate_left
  · (intro w hSw; (try dsimp only at hSw); go_simp)
    try with_reducible rfl
  try simp only [Act.put, List.setIfInBounds_toArray, List.set_cons_zero, List.set_cons_succ]
  refine wpAnyH_take (i := 3) (oi := _) (v := ?_) rfl (by kernel_rfl) (by kernel_rfl) (by kernel_rfl) (fun _ _ _ h => h) (Or.inl ⟨by rfl, ?_⟩) (by assumption) ?_
  rotate_left
  · (intro w hSw; (try dsimp only at hSw); go_simp)
    try with_reducible rfl
  try simp only [Act.put, List.setIfInBounds_toArray, List.set_cons_zero, List.set_cons_succ]
  refine wpAnyH_take (i := 5) (oi := _) (v := ?_) rfl (by kernel_rfl) (by kernel_rfl) (by kernel_rfl) (fun _ _ _ h => h) (Or.inl ⟨by rfl, ?_⟩) (by assumption) ?_
  rotate_left
  · (intro w hSw; (try dsimp only at hSw); go_simp)
    try with_reducible rfl
  try simp only [Act.put, List.setIfInBounds_toArray, List.set_cons_zero, List.set_cons_succ]
  refine wpAnyH_take (i := 6) (oi := _) (v := ?_) rfl (by kernel_rfl) (by kernel_rfl) (by kernel_rfl) (fun _ _ _ h => h) (Or.inl ⟨by rfl, ?_⟩) (by assumption) ?_
  rotate_left
  · (intro w hSw; (try dsimp only at hSw); go_simp)
    try with_reducible rfl
  try simp only [Act.put, List.setIfInBounds_toArray, List.set_cons_zero, List.set_cons_succ]
  refine wpAnyH_take (i := 7) (oi := _) (v := ?_) rfl (by kernel_rfl) (by kernel_rfl) (by kernel_rfl) (fun _ _ _ h => h) (Or.inl ⟨by rfl, ?_⟩) (by assumption) ?_
  rotate_left
  · (intro w hSw; (try dsimp only at hSw); go_simp)
    try with_reducible rfl
  try simp only [Act.put, List.setIfInBounds_toArray, List.set_cons_zero, List.set_cons_succ]
  refine wpAnyH_take (i := 9) (oi := _) (v := ?_) rfl (by kernel_rfl) (by kernel_rfl) (by kernel_rfl) (fun _ _ _ h => h) (Or.inl ⟨by rfl, ?_⟩) (by assumption) ?_
  rotate_left
  · (intro w hSw; (try dsimp only at hSw); go_simp)
    try with_reducible rfl
  try simp only [Act.put, List.setIfInBounds_toArray, List.set_cons_zero, List.set_cons_succ]
  refine wpAnyH_take (i := 10) (oi := _) (v := ?_) rfl (by kernel_rfl) (by kernel_rfl) (by kernel_rfl) (fun _ _ _ h => h) (Or.inl ⟨by rfl, ?_⟩) (by assumption) ?_
  rotate_left
  · (intro w hSw; (try dsimp only at hSw); go_simp)
    try with_reducible rfl
  try simp only [Act.put, List.setIfInBounds_toArray, List.set_cons_zero, List.set_cons_succ]
  refine wpAnyH_take (i := 11) (oi := _) (v := ?_) rfl (by kernel_rfl) (by kernel_rfl) (by kernel_rfl) (fun _ _ _ h => h) (Or.inl ⟨by rfl, ?_⟩) (by assumption) ?_
  rotate_left
  · (intro w hSw; (try dsimp only at hSw); go_simp)
    try with_reducible rfl
  try simp only [Act.put, List.setIfInBounds_toArray, List.set_cons_zero, List.set_cons_succ]
  refine wpAnyH_take (i := 13) (oi := _) (v := ?_) rfl (by kernel_rfl) (by kernel_rfl) (by kernel_rfl) (fun _ _ _ h => h) (Or.inl ⟨by rfl, ?_⟩) (by assumption) ?_
  rotate_left
  · (intro w hSw; (try dsimp only at hSw); go_simp)
    try with_reducible rfl
  try simp only [Act.put, List.setIfInBounds_toArray, List.set_cons_zero, List.set_cons_succ]
  refine wpAnyH_take (i := 14) (oi := _) (v := ?_) rfl (by kernel_rfl) (by kernel_rfl) (by kernel_rfl) (fun _ _ _ h => h) (Or.inl ⟨by rfl, ?_⟩) (by assumption) ?_
  rotate_left
  · (intro w hSw; (try dsimp only at hSw); go_simp)
    try with_reducible rfl
  try simp only [Act.put, List.setIfInBounds_toArray, List.set_cons_zero, List.set_cons_succ]
  refine wpAnyH_take (i := 15) (oi := _) (v := ?_) rfl (by kernel_rfl) (by kernel_rfl) (by kernel_rfl) (fun _ _ _ h => h) (Or.inl ⟨by rfl, ?_⟩) (by assumption) ?_
  rotate_left
  · (intro w hSw; (try dsimp only at hSw); go_simp)
    try with_reducible rfl
  try simp only [Act.put, List.setIfInBounds_toArray, List.set_cons_zero, List.set_cons_succ]
  refine wpAnyH_take (i := 17) (oi := _) (v := ?_) rfl (by kernel_rfl) (by kernel_rfl) (by kernel_rfl) (fun _ _ _ h => h) (Or.inl ⟨by rfl, ?_⟩) (by assumption) ?_
  rotate_left
  · (intro w hSw; (try dsimp only at hSw); go_simp)
    try with_reducible rfl
  try simp only [Act.put, List.setIfInBounds_toArray, List.set_cons_zero, List.set_cons_succ]
  refine wpAnyH_take (i := 18) (oi := _) (v := ?_) rfl (by kernel_rfl) (by kernel_rfl) (by kernel_rfl) (fun _ _ _ h => h) (Or.inl ⟨by rfl, ?_⟩) (by assumption) ?_
  rotate_left
  · (intro w hSw; (try dsimp only at hSw); go_simp)
    try with_reducible rfl
  try simp only [Act.put, List.setIfInBounds_toArray, List.set_cons_zero, List.set_cons_succ]
  refine wpAnyH_take (i := 19) (oi := _) (v := ?_) rfl (by kernel_rfl) (by kernel_rfl) (by kernel_rfl) (fun _ _ _ h => h) (Or.inl ⟨by rfl, ?_⟩) (by assumption) ?_
  rotate_left
  · (intro w hSw; (try dsimp only at hSw); go_simp)
    try with_reducible rfl
  try simp only [Act.put, List.setIfInBounds_toArray, List.set_cons_zero, List.set_cons_succ]
  refine wpAnyH_ready (rs := [0]) (by kernel_rfl) (by simp) ?_
  refine AllReadyH.cons (o := _) rfl (fun K hK => ?_) AllReadyH.nil
  rw [if_pos (by rfl)]
  go_simp
  rw [run_makeMap_plain]
  simp only [Result.andThen, Oper.upon]
  obtain ⟨w1, hw1⟩ : ∃ x, x = w0.drew.alloc (.map #[] 0) := ⟨_, rfl⟩
  have hr : w0.drew.heap.size = w0.heap.size := rfl
  have H1 : Holds w1 w0.heap.size [] := by rw [hw1]; exact holds_new w0.drew
  have B1 : Below w0.heap.size w0 w1 := by rw [hw1]; exact below_alloc (below_drew (Below.refl _ _)) _
  have HS : ∀ W', Below w0.heap.size w0 W' → W'.cell? ⟨w.heap.size, 0, none⟩ = some (.string (mkS name)) ∧ W'.cell? ⟨w.heap.size, 7, none⟩ = some (.string (mkS link)) ∧ W'.cell? ⟨w.heap.size, 8, none⟩ = some (.string (mkS uname)) ∧ W'.cell? ⟨w.heap.size, 9, none⟩ = some (.string (mkS gname)) ∧ W'.cell? ⟨w.heap.size, 12, none⟩ = some (.string (mkS pre)) := by
    intro W' hb
    exact ⟨(hb.cell (p := ⟨_, 0, none⟩) (blk_lt g0)).trans c0, (hb.cell (p := ⟨_, 7, none⟩) (blk_lt g0)).trans c7, (hb.cell (p := ⟨_, 8, none⟩) (blk_lt g0)).trans c8, (hb.cell (p := ⟨_, 9, none⟩) (blk_lt g0)).trans c9, (hb.cell (p := ⟨_, 12, none⟩) (blk_lt g0)).trans c12⟩
  rw [hr, ← hw1]
  refine hK.out _ _ (HS _ B1) (fun hS => ?_)
  clear hK K
  simp only [Act.put, List.setIfInBounds_toArray, List.set_cons_zero, List.set_cons_succ]
  refine apply_key (fun b1 b2 b3 b4 b5 W => ∃ L, Holds W w0.heap.size L ∧ (∀ t, t ∈ L ↔ t ∈ ents ⟨name, mode, uid, gid, size, mtime, typ, link, uname, gname, major, minor, pre⟩ b1 b2 b3 b4 b5) ∧ Below w0.heap.size w0 W) (by kernel_rfl) (by kernel_rfl) ⟨[], H1, fun t => by simp [ents], B1⟩ ?_
  intro b1 b2 b3 b4 b5 W hJ IH
  obtain ⟨L, hL, hm, hb⟩ := hJ
  cases b1 <;> cases b2 <;> cases b3 <;> cases b4 <;> cases b5
  · refine wpAnyH_ready (rs := [4, 8, 12, 16, 20]) (by kernel_rfl) (by simp) ?_
    refine AllReadyH.cons (o := _) rfl (fun K hK => ?_) ?_
    · rw [if_pos (by rfl)]
      have FR : ∀ t ∈ ents ⟨name, mode, uid, gid, size, mtime, typ, link, uname, gname, major, minor, pre⟩ false false false false false, t.1 ≠ 110 :: name := by simp [ents]
      obtain ⟨W', hrun, hH, hB⟩ := holds_insert hL (110 :: name) 100 (fun t ht => FR t ((hm t).1 ht))
      have hBW := hb.trans (hB w0.heap.size (Nat.le_refl _))
      go_simp
      refine hK.out _ _ (HS _ hBW) (fun _ => IH true false false false false W' (by decide) ⟨_, hH, fun t => by rw [List.mem_append, hm t]; simp [ents]; try (refine iff_of_eq ?_; ac_rfl), hBW⟩)
    refine AllReadyH.cons (o := _) rfl (fun K hK => ?_) ?_
    · rw [if_pos (by rfl)]
      have FR : ∀ t ∈ ents ⟨name, mode, uid, gid, size, mtime, typ, link, uname, gname, major, minor, pre⟩ false false false false false, t.1 ≠ 108 :: link := by simp [ents]
      obtain ⟨W', hrun, hH, hB⟩ := holds_insert hL (108 :: link) 100 (fun t ht => FR t ((hm t).1 ht))
      have hBW := hb.trans (hB w0.heap.size (Nat.le_refl _))
      go_simp
      refine hK.out _ _ (HS _ hBW) (fun _ => IH false true false false false W' (by decide) ⟨_, hH, fun t => by rw [List.mem_append, hm t]; simp [ents]; try (refine iff_of_eq ?_; ac_rfl), hBW⟩)
    refine AllReadyH.cons (o := _) rfl (fun K hK => ?_) ?_
    · rw [if_pos (by rfl)]
      have FR : ∀ t ∈ ents ⟨name, mode, uid, gid, size, mtime, typ, link, uname, gname, major, minor, pre⟩ false false false false false, t.1 ≠ 117 :: uname := by simp [ents]
      obtain ⟨W', hrun, hH, hB⟩ := holds_insert hL (117 :: uname) 32 (fun t ht => FR t ((hm t).1 ht))
      have hBW := hb.trans (hB w0.heap.size (Nat.le_refl _))
      go_simp
      refine hK.out _ _ (HS _ hBW) (fun _ => IH false false true false false W' (by decide) ⟨_, hH, fun t => by rw [List.mem_append, hm t]; simp [ents]; try (refine iff_of_eq ?_; ac_rfl), hBW⟩)
    refine AllReadyH.cons (o := _) rfl (fun K hK => ?_) ?_
    · rw [if_pos (by rfl)]
      have FR : ∀ t ∈ ents ⟨name, mode, uid, gid, size, mtime, typ, link, uname, gname, major, minor, pre⟩ false false false false false, t.1 ≠ 103 :: gname := by simp [ents]
      obtain ⟨W', hrun, hH, hB⟩ := holds_insert hL (103 :: gname) 32 (fun t ht => FR t ((hm t).1 ht))
      have hBW := hb.trans (hB w0.heap.size (Nat.le_refl _))
      go_simp
      refine hK.out _ _ (HS _ hBW) (fun _ => IH false false false true false W' (by decide) ⟨_, hH, fun t => by rw [List.mem_append, hm t]; simp [ents]; try (refine iff_of_eq ?_; ac_rfl), hBW⟩)
    refine AllReadyH.cons (o := _) rfl (fun K hK => ?_) ?_
    · rw [if_pos (by rfl)]
      have FR : ∀ t ∈ ents ⟨name, mode, uid, gid, size, mtime, typ, link, uname, gname, major, minor, pre⟩ false false false false false, t.1 ≠ 112 :: pre := by simp [ents]
      obtain ⟨W', hrun, hH, hB⟩ := holds_insert hL (112 :: pre) 155 (fun t ht => FR t ((hm t).1 ht))
      have hBW := hb.trans (hB w0.heap.size (Nat.le_refl _))
      go_simp
      refine hK.out _ _ (HS _ hBW) (fun _ => IH false false false false true W' (by decide) ⟨_, hH, fun t => by rw [List.mem_append, hm t]; simp [ents]; try (refine iff_of_eq ?_; ac_rfl), hBW⟩)
    exact AllReadyH.nil
  · refine wpAnyH_ready (rs := [4, 8, 12, 16]) (by kernel_rfl) (by simp) ?_
    refine AllReadyH.cons (o := _) rfl (fun K hK => ?_) ?_
    · rw [if_pos (by rfl)]
      have FR : ∀ t ∈ ents ⟨name, mode, uid, gid, size, mtime, typ, link, uname, gname, major, minor, pre⟩ false false false false true, t.1 ≠ 110 :: name := by simp [ents]
      obtain ⟨W', hrun, hH, hB⟩ := holds_insert hL (110 :: name) 100 (fun t ht => FR t ((hm t).1 ht))
      have hBW := hb.trans (hB w0.heap.size (Nat.le_refl _))
      go_simp
      refine hK.out _ _ (HS _ hBW) (fun _ => IH true false false false true W' (by decide) ⟨_, hH, fun t => by rw [List.mem_append, hm t]; simp [ents]; try (refine iff_of_eq ?_; ac_rfl), hBW⟩)
    refine AllReadyH.cons (o := _) rfl (fun K hK => ?_) ?_
    · rw [if_pos (by rfl)]
      have FR : ∀ t ∈ ents ⟨name, mode, uid, gid, size, mtime, typ, link, uname, gname, major, minor, pre⟩ false false false false true, t.1 ≠ 108 :: link := by simp [ents]
      obtain ⟨W', hrun, hH, hB⟩ := holds_insert hL (108 :: link) 100 (fun t ht => FR t ((hm t).1 ht))
      have hBW := hb.trans (hB w0.heap.size (Nat.le_refl _))
      go_simp
      refine hK.out _ _ (HS _ hBW) (fun _ => IH false true false false true W' (by decide) ⟨_, hH, fun t => by rw [List.mem_append, hm t]; simp [ents]; try (refine iff_of_eq ?_; ac_rfl), hBW⟩)
    refine AllReadyH.cons (o := _) rfl (fun K hK => ?_) ?_
    · rw [if_pos (by rfl)]
      have FR : ∀ t ∈ ents ⟨name, mode, uid, gid, size, mtime, typ, link, uname, gname, major, minor, pre⟩ false false false false true, t.1 ≠ 117 :: uname := by simp [ents]
      obtain ⟨W', hrun, hH, hB⟩ := holds_insert hL (117 :: uname) 32 (fun t ht => FR t ((hm t).1 ht))
      have hBW := hb.trans (hB w0.heap.size (Nat.le_refl _))
      go_simp
      refine hK.out _ _ (HS _ hBW) (fun _ => IH false false true false true W' (by decide) ⟨_, hH, fun t => by rw [List.mem_append, hm t]; simp [ents]; try (refine iff_of_eq ?_; ac_rfl), hBW⟩)
    refine AllReadyH.cons (o := _) rfl (fun K hK => ?_) ?_
    · rw [if_pos (by rfl)]
      have FR : ∀ t ∈ ents ⟨name, mode, uid, gid, size, mtime, typ, link, uname, gname, major, minor, pre⟩ false false false false true, t.1 ≠ 103 :: gname := by simp [ents]
      obtain ⟨W', hrun, hH, hB⟩ := holds_insert hL (103 :: gname) 32 (fun t ht => FR t ((hm t).1 ht))
      have hBW := hb.trans (hB w0.heap.size (Nat.le_refl _))
      go_simp
      refine hK.out _ _ (HS _ hBW) (fun _ => IH false false false true true W' (by decide) ⟨_, hH, fun t => by rw [List.mem_append, hm t]; simp [ents]; try (refine iff_of_eq ?_; ac_rfl), hBW⟩)
    exact AllReadyH.nil
  · refine wpAnyH_ready (rs := [4, 8, 12, 20]) (by kernel_rfl) (by simp) ?_
    refine AllReadyH.cons (o := _) rfl (fun K hK => ?_) ?_
    · rw [if_pos (by rfl)]
      have FR : ∀ t ∈ ents ⟨name, mode, uid, gid, size, mtime, typ, link, uname, gname, major, minor, pre⟩ false false false true false, t.1 ≠ 110 :: name := by simp [ents]
      obtain ⟨W', hrun, hH, hB⟩ := holds_insert hL (110 :: name) 100 (fun t ht => FR t ((hm t).1 ht))
      have hBW := hb.trans (hB w0.heap.size (Nat.le_refl _))
      go_simp
      refine hK.out _ _ (HS _ hBW) (fun _ => IH true false false true false W' (by decide) ⟨_, hH, fun t => by rw [List.mem_append, hm t]; simp [ents]; try (refine iff_of_eq ?_; ac_rfl), hBW⟩)
    refine AllReadyH.cons (o := _) rfl (fun K hK => ?_) ?_
    · rw [if_pos (by rfl)]
      have FR : ∀ t ∈ ents ⟨name, mode, uid, gid, size, mtime, typ, link, uname, gname, major, minor, pre⟩ false false false true false, t.1 ≠ 108 :: link := by simp [ents]
      obtain ⟨W', hrun, hH, hB⟩ := holds_insert hL (108 :: link) 100 (fun t ht => FR t ((hm t).1 ht))
      have hBW := hb.trans (hB w0.heap.size (Nat.le_refl _))
      go_simp
      refine hK.out _ _ (HS _ hBW) (fun _ => IH false true false true false W' (by decide) ⟨_, hH, fun t => by rw [List.mem_append, hm t]; simp [ents]; try (refine iff_of_eq ?_; ac_rfl), hBW⟩)
    refine AllReadyH.cons (o := _) rfl (fun K hK => ?_) ?_
    · rw [if_pos (by rfl)]
      have FR : ∀ t ∈ ents ⟨name, mode, uid, gid, size, mtime, typ, link, uname, gname, major, minor, pre⟩ false false false true false, t.1 ≠ 117 :: uname := by simp [ents]
      obtain ⟨W', hrun, hH, hB⟩ := holds_insert hL (117 :: uname) 32 (fun t ht => FR t ((hm t).1 ht))
      have hBW := hb.trans (hB w0.heap.size (Nat.le_refl _))
      go_simp
      refine hK.out _ _ (HS _ hBW) (fun _ => IH false false true true false W' (by decide) ⟨_, hH, fun t => by rw [List.mem_append, hm t]; simp [ents]; try (refine iff_of_eq ?_; ac_rfl), hBW⟩)
    refine AllReadyH.cons (o := _) rfl (fun K hK => ?_) ?_
    · rw [if_pos (by rfl)]
      have FR : ∀ t ∈ ents ⟨name, mode, uid, gid, size, mtime, typ, link, uname, gname, major, minor, pre⟩ false false false true false, t.1 ≠ 112 :: pre := by simp [ents]
      obtain ⟨W', hrun, hH, hB⟩ := holds_insert hL (112 :: pre) 155 (fun t ht => FR t ((hm t).1 ht))
      have hBW := hb.trans (hB w0.heap.size (Nat.le_refl _))
      go_simp
      refine hK.out _ _ (HS _ hBW) (fun _ => IH false false false true true W' (by decide) ⟨_, hH, fun t => by rw [List.mem_append, hm t]; simp [ents]; try (refine iff_of_eq ?_; ac_rfl), hBW⟩)
    exact AllReadyH.nil
  · refine wpAnyH_ready (rs := [4, 8, 12]) (by kernel_rfl) (by simp) ?_
    refine AllReadyH.cons (o := _) rfl (fun K hK => ?_) ?_
    · rw [if_pos (by rfl)]
      have FR : ∀ t ∈ ents ⟨name, mode, uid, gid, size, mtime, typ, link, uname, gname, major, minor, pre⟩ false false false true true, t.1 ≠ 110 :: name := by simp [ents]
      obtain ⟨W', hrun, hH, hB⟩ := holds_insert hL (110 :: name) 100 (fun t ht => FR t ((hm t).1 ht))
      have hBW := hb.trans (hB w0.heap.size (Nat.le_refl _))
      go_simp
      refine hK.out _ _ (HS _ hBW) (fun _ => IH true false false true true W' (by decide) ⟨_, hH, fun t => by rw [List.mem_append, hm t]; simp [ents]; try (refine iff_of_eq ?_; ac_rfl), hBW⟩)
    refine AllReadyH.cons (o := _) rfl (fun K hK => ?_) ?_
    · rw [if_pos (by rfl)]
      have FR : ∀ t ∈ ents ⟨name, mode, uid, gid, size, mtime, typ, link, uname, gname, major, minor, pre⟩ false false false true true, t.1 ≠ 108 :: link := by simp [ents]
      obtain ⟨W', hrun, hH, hB⟩ := holds_insert hL (108 :: link) 100 (fun t ht => FR t ((hm t).1 ht))
      have hBW := hb.trans (hB w0.heap.size (Nat.le_refl _))
      go_simp
      refine hK.out _ _ (HS _ hBW) (fun _ => IH false true false true true W' (by decide) ⟨_, hH, fun t => by rw [List.mem_append, hm t]; simp [ents]; try (refine iff_of_eq ?_; ac_rfl), hBW⟩)
    refine AllReadyH.cons (o := _) rfl (fun K hK => ?_) ?_
    · rw [if_pos (by rfl)]
      have FR : ∀ t ∈ ents ⟨name, mode, uid, gid, size, mtime, typ, link, uname, gname, major, minor, pre⟩ false false false true true, t.1 ≠ 117 :: uname := by simp [ents]
      obtain ⟨W', hrun, hH, hB⟩ := holds_insert hL (117 :: uname) 32 (fun t ht => FR t ((hm t).1 ht))
      have hBW := hb.trans (hB w0.heap.size (Nat.le_refl _))
      go_simp
      refine hK.out _ _ (HS _ hBW) (fun _ => IH false false true true true W' (by decide) ⟨_, hH, fun t => by rw [List.mem_append, hm t]; simp [ents]; try (refine iff_of_eq ?_; ac_rfl), hBW⟩)
    exact AllReadyH.nil
  · refine wpAnyH_ready (rs := [4, 8, 16, 20]) (by kernel_rfl) (by simp) ?_
    refine AllReadyH.cons (o := _) rfl (fun K hK => ?_) ?_
    · rw [if_pos (by rfl)]
      have FR : ∀ t ∈ ents ⟨name, mode, uid, gid, size, mtime, typ, link, uname, gname, major, minor, pre⟩ false false true false false, t.1 ≠ 110 :: name := by simp [ents]
      obtain ⟨W', hrun, hH, hB⟩ := holds_insert hL (110 :: name) 100 (fun t ht => FR t ((hm t).1 ht))
      have hBW := hb.trans (hB w0.heap.size (Nat.le_refl _))
      go_simp
      refine hK.out _ _ (HS _ hBW) (fun _ => IH true false true false false W' (by decide) ⟨_, hH, fun t => by rw [List.mem_append, hm t]; simp [ents]; try (refine iff_of_eq ?_; ac_rfl), hBW⟩)
    refine AllReadyH.cons (o := _) rfl (fun K hK => ?_) ?_
    · rw [if_pos (by rfl)]
      have FR : ∀ t ∈ ents ⟨name, mode, uid, gid, size, mtime, typ, link, uname, gname, major, minor, pre⟩ false false true false false, t.1 ≠ 108 :: link := by simp [ents]
      obtain ⟨W', hrun, hH, hB⟩ := holds_insert hL (108 :: link) 100 (fun t ht => FR t ((hm t).1 ht))
      have hBW := hb.trans (hB w0.heap.size (Nat.le_refl _))
      go_simp
      refine hK.out _ _ (HS _ hBW) (fun _ => IH false true true false false W' (by decide) ⟨_, hH, fun t => by rw [List.mem_append, hm t]; simp [ents]; try (refine iff_of_eq ?_; ac_rfl), hBW⟩)
    refine AllReadyH.cons (o := _) rfl (fun K hK => ?_) ?_
    · rw [if_pos (by rfl)]
      have FR : ∀ t ∈ ents ⟨name, mode, uid, gid, size, mtime, typ, link, uname, gname, major, minor, pre⟩ false false true false false, t.1 ≠ 103 :: gname := by simp [ents]
      obtain ⟨W', hrun, hH, hB⟩ := holds_insert hL (103 :: gname) 32 (fun t ht => FR t ((hm t).1 ht))
      have hBW := hb.trans (hB w0.heap.size (Nat.le_refl _))
      go_simp
      refine hK.out _ _ (HS _ hBW) (fun _ => IH false false true true false W' (by decide) ⟨_, hH, fun t => by rw [List.mem_append, hm t]; simp [ents]; try (refine iff_of_eq ?_; ac_rfl), hBW⟩)
    refine AllReadyH.cons (o := _) rfl (fun K hK => ?_) ?_
    · rw [if_pos (by rfl)]
      have FR : ∀ t ∈ ents ⟨name, mode, uid, gid, size, mtime, typ, link, uname, gname, major, minor, pre⟩ false false true false false, t.1 ≠ 112 :: pre := by simp [ents]
      obtain ⟨W', hrun, hH, hB⟩ := holds_insert hL (112 :: pre) 155 (fun t ht => FR t ((hm t).1 ht))
      have hBW := hb.trans (hB w0.heap.size (Nat.le_refl _))
      go_simp
      refine hK.out _ _ (HS _ hBW) (fun _ => IH false false true false true W' (by decide) ⟨_, hH, fun t => by rw [List.mem_append, hm t]; simp [ents]; try (refine iff_of_eq ?_; ac_rfl), hBW⟩)
    exact AllReadyH.nil
  · refine wpAnyH_ready (rs := [4, 8, 16]) (by kernel_rfl) (by simp) ?_
    refine AllReadyH.cons (o := _) rfl (fun K hK => ?_) ?_
    · rw [if_pos (by rfl)]
      have FR : ∀ t ∈ ents ⟨name, mode, uid, gid, size, mtime, typ, link, uname, gname, major, minor, pre⟩ false false true false true, t.1 ≠ 110 :: name := by simp [ents]
      obtain ⟨W', hrun, hH, hB⟩ := holds_insert hL (110 :: name) 100 (fun t ht => FR t ((hm t).1 ht))
      have hBW := hb.trans (hB w0.heap.size (Nat.le_refl _))
      go_simp
      refine hK.out _ _ (HS _ hBW) (fun _ => IH true false true false true W' (by decide) ⟨_, hH, fun t => by rw [List.mem_append, hm t]; simp [ents]; try (refine iff_of_eq ?_; ac_rfl), hBW⟩)
    refine AllReadyH.cons (o := _) rfl (fun K hK => ?_) ?_
    · rw [if_pos (by rfl)]
      have FR : ∀ t ∈ ents ⟨name, mode, uid, gid, size, mtime, typ, link, uname, gname, major, minor, pre⟩ false false true false true, t.1 ≠ 108 :: link := by simp [ents]
      obtain ⟨W', hrun, hH, hB⟩ := holds_insert hL (108 :: link) 100 (fun t ht => FR t ((hm t).1 ht))
      have hBW := hb.trans (hB w0.heap.size (Nat.le_refl _))
      go_simp
      refine hK.out _ _ (HS _ hBW) (fun _ => IH false true true false true W' (by decide) ⟨_, hH, fun t => by rw [List.mem_append, hm t]; simp [ents]; try (refine iff_of_eq ?_; ac_rfl), hBW⟩)
    refine AllReadyH.cons (o := _) rfl (fun K hK => ?_) ?_
    · rw [if_pos (by rfl)]
      have FR : ∀ t ∈ ents ⟨name, mode, uid, gid, size, mtime, typ, link, uname, gname, major, minor, pre⟩ false false true false true, t.1 ≠ 103 :: gname := by simp [ents]
      obtain ⟨W', hrun, hH, hB⟩ := holds_insert hL (103 :: gname) 32 (fun t ht => FR t ((hm t).1 ht))
      have hBW := hb.trans (hB w0.heap.size (Nat.le_refl _))
      go_simp
      refine hK.out _ _ (HS _ hBW) (fun _ => IH false false true true true W' (by decide) ⟨_, hH, fun t => by rw [List.mem_append, hm t]; simp [ents]; try (refine iff_of_eq ?_; ac_rfl), hBW⟩)
    exact AllReadyH.nil
  · refine wpAnyH_ready (rs := [4, 8, 20]) (by kernel_rfl) (by simp) ?_
    refine AllReadyH.cons (o := _) rfl (fun K hK => ?_) ?_
    · rw [if_pos (by rfl)]
      have FR : ∀ t ∈ ents ⟨name, mode, uid, gid, size, mtime, typ, link, uname, gname, major, minor, pre⟩ false false true true false, t.1 ≠ 110 :: name := by simp [ents]
      obtain ⟨W', hrun, hH, hB⟩ := holds_insert hL (110 :: name) 100 (fun t ht => FR t ((hm t).1 ht))
      have hBW := hb.trans (hB w0.heap.size (Nat.le_refl _))
      go_simp
      refine hK.out _ _ (HS _ hBW) (fun _ => IH true false true true false W' (by decide) ⟨_, hH, fun t => by rw [List.mem_append, hm t]; simp [ents]; try (refine iff_of_eq ?_; ac_rfl), hBW⟩)
    refine AllReadyH.cons (o := _) rfl (fun K hK => ?_) ?_
    · rw [if_pos (by rfl)]
      have FR : ∀ t ∈ ents ⟨name, mode, uid, gid, size, mtime, typ, link, uname, gname, major, minor, pre⟩ false false true true false, t.1 ≠ 108 :: link := by simp [ents]
      obtain ⟨W', hrun, hH, hB⟩ := holds_insert hL (108 :: link) 100 (fun t ht => FR t ((hm t).1 ht))
      have hBW := hb.trans (hB w0.heap.size (Nat.le_refl _))
      go_simp
      refine hK.out _ _ (HS _ hBW) (fun _ => IH false true true true false W' (by decide) ⟨_, hH, fun t => by rw [List.mem_append, hm t]; simp [ents]; try (refine iff_of_eq ?_; ac_rfl), hBW⟩)
    refine AllReadyH.cons (o := _) rfl (fun K hK => ?_) ?_
    · rw [if_pos (by rfl)]
      have FR : ∀ t ∈ ents ⟨name, mode, uid, gid, size, mtime, typ, link, uname, gname, major, minor, pre⟩ false false true true false, t.1 ≠ 112 :: pre := by simp [ents]
      obtain ⟨W', hrun, hH, hB⟩ := holds_insert hL (112 :: pre) 155 (fun t ht => FR t ((hm t).1 ht))
      have hBW := hb.trans (hB w0.heap.size (Nat.le_refl _))
      go_simp
      refine hK.out _ _ (HS _ hBW) (fun _ => IH false false true true true W' (by decide) ⟨_, hH, fun t => by rw [List.mem_append, hm t]; simp [ents]; try (refine iff_of_eq ?_; ac_rfl), hBW⟩)
    exact AllReadyH.nil
  · refine wpAnyH_ready (rs := [4, 8]) (by kernel_rfl) (by simp) ?_
    refine AllReadyH.cons (o := _) rfl (fun K hK => ?_) ?_
    · rw [if_pos (by rfl)]
      have FR : ∀ t ∈ ents ⟨name, mode, uid, gid, size, mtime, typ, link, uname, gname, major, minor, pre⟩ false false true true true, t.1 ≠ 110 :: name := by simp [ents]
      obtain ⟨W', hrun, hH, hB⟩ := holds_insert hL (110 :: name) 100 (fun t ht => FR t ((hm t).1 ht))
      have hBW := hb.trans (hB w0.heap.size (Nat.le_refl _))
      go_simp
      refine hK.out _ _ (HS _ hBW) (fun _ => IH true false true true true W' (by decide) ⟨_, hH, fun t => by rw [List.mem_append, hm t]; simp [ents]; try (refine iff_of_eq ?_; ac_rfl), hBW⟩)
    refine AllReadyH.cons (o := _) rfl (fun K hK => ?_) ?_
    · rw [if_pos (by rfl)]
      have FR : ∀ t ∈ ents ⟨name, mode, uid, gid, size, mtime, typ, link, uname, gname, major, minor, pre⟩ false false true true true, t.1 ≠ 108 :: link := by simp [ents]
      obtain ⟨W', hrun, hH, hB⟩ := holds_insert hL (108 :: link) 100 (fun t ht => FR t ((hm t).1 ht))
      have hBW := hb.trans (hB w0.heap.size (Nat.le_refl _))
      go_simp
      refine hK.out _ _ (HS _ hBW) (fun _ => IH false true true true true W' (by decide) ⟨_, hH, fun t => by rw [List.mem_append, hm t]; simp [ents]; try (refine iff_of_eq ?_; ac_rfl), hBW⟩)
    exact AllReadyH.nil
  · refine wpAnyH_ready (rs := [4, 12, 16, 20]) (by kernel_rfl) (by simp) ?_
    refine AllReadyH.cons (o := _) rfl (fun K hK => ?_) ?_
    · rw [if_pos (by rfl)]
      have FR : ∀ t ∈ ents ⟨name, mode, uid, gid, size, mtime, typ, link, uname, gname, major, minor, pre⟩ false true false false false, t.1 ≠ 110 :: name := by simp [ents]
      obtain ⟨W', hrun, hH, hB⟩ := holds_insert hL (110 :: name) 100 (fun t ht => FR t ((hm t).1 ht))
      have hBW := hb.trans (hB w0.heap.size (Nat.le_refl _))
      go_simp
      refine hK.out _ _ (HS _ hBW) (fun _ => IH true true false false false W' (by decide) ⟨_, hH, fun t => by rw [List.mem_append, hm t]; simp [ents]; try (refine iff_of_eq ?_; ac_rfl), hBW⟩)
    refine AllReadyH.cons (o := _) rfl (fun K hK => ?_) ?_
    · rw [if_pos (by rfl)]
      have FR : ∀ t ∈ ents ⟨name, mode, uid, gid, size, mtime, typ, link, uname, gname, major, minor, pre⟩ false true false false false, t.1 ≠ 117 :: uname := by simp [ents]
      obtain ⟨W', hrun, hH, hB⟩ := holds_insert hL (117 :: uname) 32 (fun t ht => FR t ((hm t).1 ht))
      have hBW := hb.trans (hB w0.heap.size (Nat.le_refl _))
      go_simp
      refine hK.out _ _ (HS _ hBW) (fun _ => IH false true true false false W' (by decide) ⟨_, hH, fun t => by rw [List.mem_append, hm t]; simp [ents]; try (refine iff_of_eq ?_; ac_rfl), hBW⟩)
    refine AllReadyH.cons (o := _) rfl (fun K hK => ?_) ?_
    · rw [if_pos (by rfl)]
      have FR : ∀ t ∈ ents ⟨name, mode, uid, gid, size, mtime, typ, link, uname, gname, major, minor, pre⟩ false true false false false, t.1 ≠ 103 :: gname := by simp [ents]
      obtain ⟨W', hrun, hH, hB⟩ := holds_insert hL (103 :: gname) 32 (fun t ht => FR t ((hm t).1 ht))
      have hBW := hb.trans (hB w0.heap.size (Nat.le_refl _))
      go_simp
      refine hK.out _ _ (HS _ hBW) (fun _ => IH false true false true false W' (by decide) ⟨_, hH, fun t => by rw [List.mem_append, hm t]; simp [ents]; try (refine iff_of_eq ?_; ac_rfl), hBW⟩)
    refine AllReadyH.cons (o := _) rfl (fun K hK => ?_) ?_
    · rw [if_pos (by rfl)]
      have FR : ∀ t ∈ ents ⟨name, mode, uid, gid, size, mtime, typ, link, uname, gname, major, minor, pre⟩ false true false false false, t.1 ≠ 112 :: pre := by simp [ents]
      obtain ⟨W', hrun, hH, hB⟩ := holds_insert hL (112 :: pre) 155 (fun t ht => FR t ((hm t).1 ht))
      have hBW := hb.trans (hB w0.heap.size (Nat.le_refl _))
      go_simp
      refine hK.out _ _ (HS _ hBW) (fun _ => IH false true false false true W' (by decide) ⟨_, hH, fun t => by rw [List.mem_append, hm t]; simp [ents]; try (refine iff_of_eq ?_; ac_rfl), hBW⟩)
    exact AllReadyH.nil
  · refine wpAnyH_ready (rs := [4, 12, 16]) (by kernel_rfl) (by simp) ?_
    refine AllReadyH.cons (o := _) rfl (fun K hK => ?_) ?_
    · rw [if_pos (by rfl)]
      have FR : ∀ t ∈ ents ⟨name, mode, uid, gid, size, mtime, typ, link, uname, gname, major, minor, pre⟩ false true false false true, t.1 ≠ 110 :: name := by simp [ents]
      obtain ⟨W', hrun, hH, hB⟩ := holds_insert hL (110 :: name) 100 (fun t ht => FR t ((hm t).1 ht))
      have hBW := hb.trans (hB w0.heap.size (Nat.le_refl _))
      go_simp
      refine hK.out _ _ (HS _ hBW) (fun _ => IH true true false false true W' (by decide) ⟨_, hH, fun t => by rw [List.mem_append, hm t]; simp [ents]; try (refine iff_of_eq ?_; ac_rfl), hBW⟩)
    refine AllReadyH.cons (o := _) rfl (fun K hK => ?_) ?_
    · rw [if_pos (by rfl)]
      have FR : ∀ t ∈ ents ⟨name, mode, uid, gid, size, mtime, typ, link, uname, gname, major, minor, pre⟩ false true false false true, t.1 ≠ 117 :: uname := by simp [ents]
      obtain ⟨W', hrun, hH, hB⟩ := holds_insert hL (117 :: uname) 32 (fun t ht => FR t ((hm t).1 ht))
      have hBW := hb.trans (hB w0.heap.size (Nat.le_refl _))
      go_simp
      refine hK.out _ _ (HS _ hBW) (fun _ => IH false true true false true W' (by decide) ⟨_, hH, fun t => by rw [List.mem_append, hm t]; simp [ents]; try (refine iff_of_eq ?_; ac_rfl), hBW⟩)
    refine AllReadyH.cons (o := _) rfl (fun K hK => ?_) ?_
    · rw [if_pos (by rfl)]
      have FR : ∀ t ∈ ents ⟨name, mode, uid, gid, size, mtime, typ, link, uname, gname, major, minor, pre⟩ false true false false true, t.1 ≠ 103 :: gname := by simp [ents]
      obtain ⟨W', hrun, hH, hB⟩ := holds_insert hL (103 :: gname) 32 (fun t ht => FR t ((hm t).1 ht))
      have hBW := hb.trans (hB w0.heap.size (Nat.le_refl _))
      go_simp
      refine hK.out _ _ (HS _ hBW) (fun _ => IH false true false true true W' (by decide) ⟨_, hH, fun t => by rw [List.mem_append, hm t]; simp [ents]; try (refine iff_of_eq ?_; ac_rfl), hBW⟩)
    exact AllReadyH.nil
  · refine wpAnyH_ready (rs := [4, 12, 20]) (by kernel_rfl) (by simp) ?_
    refine AllReadyH.cons (o := _) rfl (fun K hK => ?_) ?_
    · rw [if_pos (by rfl)]
      have FR : ∀ t ∈ ents ⟨name, mode, uid, gid, size, mtime, typ, link, uname, gname, major, minor, pre⟩ false true false true false, t.1 ≠ 110 :: name := by simp [ents]
      obtain ⟨W', hrun, hH, hB⟩ := holds_insert hL (110 :: name) 100 (fun t ht => FR t ((hm t).1 ht))
      have hBW := hb.trans (hB w0.heap.size (Nat.le_refl _))
      go_simp
      refine hK.out _ _ (HS _ hBW) (fun _ => IH true true false true false W' (by decide) ⟨_, hH, fun t => by rw [List.mem_append, hm t]; simp [ents]; try (refine iff_of_eq ?_; ac_rfl), hBW⟩)
    refine AllReadyH.cons (o := _) rfl (fun K hK => ?_) ?_
    · rw [if_pos (by rfl)]
      have FR : ∀ t ∈ ents ⟨name, mode, uid, gid, size, mtime, typ, link, uname, gname, major, minor, pre⟩ false true false true false, t.1 ≠ 117 :: uname := by simp [ents]
      obtain ⟨W', hrun, hH, hB⟩ := holds_insert hL (117 :: uname) 32 (fun t ht => FR t ((hm t).1 ht))
      have hBW := hb.trans (hB w0.heap.size (Nat.le_refl _))
      go_simp
      refine hK.out _ _ (HS _ hBW) (fun _ => IH false true true true false W' (by decide) ⟨_, hH, fun t => by rw [List.mem_append, hm t]; simp [ents]; try (refine iff_of_eq ?_; ac_rfl), hBW⟩)
    refine AllReadyH.cons (o := _) rfl (fun K hK => ?_) ?_
    · rw [if_pos (by rfl)]
      have FR : ∀ t ∈ ents ⟨name, mode, uid, gid, size, mtime, typ, link, uname, gname, major, minor, pre⟩ false true false true false, t.1 ≠ 112 :: pre := by simp [ents]
      obtain ⟨W', hrun, hH, hB⟩ := holds_insert hL (112 :: pre) 155 (fun t ht => FR t ((hm t).1 ht))
      have hBW := hb.trans (hB w0.heap.size (Nat.le_refl _))
      go_simp
      refine hK.out _ _ (HS _ hBW) (fun _ => IH false true false true true W' (by decide) ⟨_, hH, fun t => by rw [List.mem_append, hm t]; simp [ents]; try (refine iff_of_eq ?_; ac_rfl), hBW⟩)
    exact AllReadyH.nil
  · refine wpAnyH_ready (rs := [4, 12]) (by kernel_rfl) (by simp) ?_
    refine AllReadyH.cons (o := _) rfl (fun K hK => ?_) ?_
    · rw [if_pos (by rfl)]
      have FR : ∀ t ∈ ents ⟨name, mode, uid, gid, size, mtime, typ, link, uname, gname, major, minor, pre⟩ false true false true true, t.1 ≠ 110 :: name := by simp [ents]
      obtain ⟨W', hrun, hH, hB⟩ := holds_insert hL (110 :: name) 100 (fun t ht => FR t ((hm t).1 ht))
      have hBW := hb.trans (hB w0.heap.size (Nat.le_refl _))
      go_simp
      refine hK.out _ _ (HS _ hBW) (fun _ => IH true true false true true W' (by decide) ⟨_, hH, fun t => by rw [List.mem_append, hm t]; simp [ents]; try (refine iff_of_eq ?_; ac_rfl), hBW⟩)
    refine AllReadyH.cons (o := _) rfl (fun K hK => ?_) ?_
    · rw [if_pos (by rfl)]
      have FR : ∀ t ∈ ents ⟨name, mode, uid, gid, size, mtime, typ, link, uname, gname, major, minor, pre⟩ false true false true true, t.1 ≠ 117 :: uname := by simp [ents]
      obtain ⟨W', hrun, hH, hB⟩ := holds_insert hL (117 :: uname) 32 (fun t ht => FR t ((hm t).1 ht))
      have hBW := hb.trans (hB w0.heap.size (Nat.le_refl _))
      go_simp
      refine hK.out _ _ (HS _ hBW) (fun _ => IH false true true true true W' (by decide) ⟨_, hH, fun t => by rw [List.mem_append, hm t]; simp [ents]; try (refine iff_of_eq ?_; ac_rfl), hBW⟩)
    exact AllReadyH.nil
  · refine wpAnyH_ready (rs := [4, 16, 20]) (by kernel_rfl) (by simp) ?_
    refine AllReadyH.cons (o := _) rfl (fun K hK => ?_) ?_
    · rw [if_pos (by rfl)]
      have FR : ∀ t ∈ ents ⟨name, mode, uid, gid, size, mtime, typ, link, uname, gname, major, minor, pre⟩ false true true false false, t.1 ≠ 110 :: name := by simp [ents]
      obtain ⟨W', hrun, hH, hB⟩ := holds_insert hL (110 :: name) 100 (fun t ht => FR t ((hm t).1 ht))
      have hBW := hb.trans (hB w0.heap.size (Nat.le_refl _))
      go_simp
      refine hK.out _ _ (HS _ hBW) (fun _ => IH true true true false false W' (by decide) ⟨_, hH, fun t => by rw [List.mem_append, hm t]; simp [ents]; try (refine iff_of_eq ?_; ac_rfl), hBW⟩)
    refine AllReadyH.cons (o := _) rfl (fun K hK => ?_) ?_
    · rw [if_pos (by rfl)]
      have FR : ∀ t ∈ ents ⟨name, mode, uid, gid, size, mtime, typ, link, uname, gname, major, minor, pre⟩ false true true false false, t.1 ≠ 103 :: gname := by simp [ents]
      obtain ⟨W', hrun, hH, hB⟩ := holds_insert hL (103 :: gname) 32 (fun t ht => FR t ((hm t).1 ht))
      have hBW := hb.trans (hB w0.heap.size (Nat.le_refl _))
      go_simp
      refine hK.out _ _ (HS _ hBW) (fun _ => IH false true true true false W' (by decide) ⟨_, hH, fun t => by rw [List.mem_append, hm t]; simp [ents]; try (refine iff_of_eq ?_; ac_rfl), hBW⟩)
    refine AllReadyH.cons (o := _) rfl (fun K hK => ?_) ?_
    · rw [if_pos (by rfl)]
      have FR : ∀ t ∈ ents ⟨name, mode, uid, gid, size, mtime, typ, link, uname, gname, major, minor, pre⟩ false true true false false, t.1 ≠ 112 :: pre := by simp [ents]
      obtain ⟨W', hrun, hH, hB⟩ := holds_insert hL (112 :: pre) 155 (fun t ht => FR t ((hm t).1 ht))
      have hBW := hb.trans (hB w0.heap.size (Nat.le_refl _))
      go_simp
      refine hK.out _ _ (HS _ hBW) (fun _ => IH false true true false true W' (by decide) ⟨_, hH, fun t => by rw [List.mem_append, hm t]; simp [ents]; try (refine iff_of_eq ?_; ac_rfl), hBW⟩)
    exact AllReadyH.nil
  · refine wpAnyH_ready (rs := [4, 16]) (by kernel_rfl) (by simp) ?_
    refine AllReadyH.cons (o := _) rfl (fun K hK => ?_) ?_
    · rw [if_pos (by rfl)]
      have FR : ∀ t ∈ ents ⟨name, mode, uid, gid, size, mtime, typ, link, uname, gname, major, minor, pre⟩ false true true false true, t.1 ≠ 110 :: name := by simp [ents]
      obtain ⟨W', hrun, hH, hB⟩ := holds_insert hL (110 :: name) 100 (fun t ht => FR t ((hm t).1 ht))
      have hBW := hb.trans (hB w0.heap.size (Nat.le_refl _))
      go_simp
      refine hK.out _ _ (HS _ hBW) (fun _ => IH true true true false true W' (by decide) ⟨_, hH, fun t => by rw [List.mem_append, hm t]; simp [ents]; try (refine iff_of_eq ?_; ac_rfl), hBW⟩)
    refine AllReadyH.cons (o := _) rfl (fun K hK => ?_) ?_
    · rw [if_pos (by rfl)]
      have FR : ∀ t ∈ ents ⟨name, mode, uid, gid, size, mtime, typ, link, uname, gname, major, minor, pre⟩ false true true false true, t.1 ≠ 103 :: gname := by simp [ents]
      obtain ⟨W', hrun, hH, hB⟩ := holds_insert hL (103 :: gname) 32 (fun t ht => FR t ((hm t).1 ht))
      have hBW := hb.trans (hB w0.heap.size (Nat.le_refl _))
      go_simp
      refine hK.out _ _ (HS _ hBW) (fun _ => IH false true true true true W' (by decide) ⟨_, hH, fun t => by rw [List.mem_append, hm t]; simp [ents]; try (refine iff_of_eq ?_; ac_rfl), hBW⟩)
    exact AllReadyH.nil
  · refine wpAnyH_ready (rs := [4, 20]) (by kernel_rfl) (by simp) ?_
    refine AllReadyH.cons (o := _) rfl (fun K hK => ?_) ?_
    · rw [if_pos (by rfl)]
      have FR : ∀ t ∈ ents ⟨name, mode, uid, gid, size, mtime, typ, link, uname, gname, major, minor, pre⟩ false true true true false, t.1 ≠ 110 :: name := by simp [ents]
      obtain ⟨W', hrun, hH, hB⟩ := holds_insert hL (110 :: name) 100 (fun t ht => FR t ((hm t).1 ht))
      have hBW := hb.trans (hB w0.heap.size (Nat.le_refl _))
      go_simp
      refine hK.out _ _ (HS _ hBW) (fun _ => IH true true true true false W' (by decide) ⟨_, hH, fun t => by rw [List.mem_append, hm t]; simp [ents]; try (refine iff_of_eq ?_; ac_rfl), hBW⟩)
    refine AllReadyH.cons (o := _) rfl (fun K hK => ?_) ?_
    · rw [if_pos (by rfl)]
      have FR : ∀ t ∈ ents ⟨name, mode, uid, gid, size, mtime, typ, link, uname, gname, major, minor, pre⟩ false true true true false, t.1 ≠ 112 :: pre := by simp [ents]
      obtain ⟨W', hrun, hH, hB⟩ := holds_insert hL (112 :: pre) 155 (fun t ht => FR t ((hm t).1 ht))
      have hBW := hb.trans (hB w0.heap.size (Nat.le_refl _))
      go_simp
      refine hK.out _ _ (HS _ hBW) (fun _ => IH false true true true true W' (by decide) ⟨_, hH, fun t => by rw [List.mem_append, hm t]; simp [ents]; try (refine iff_of_eq ?_; ac_rfl), hBW⟩)
    exact AllReadyH.nil
  · refine wpAnyH_ready (rs := [4]) (by kernel_rfl) (by simp) ?_
    refine AllReadyH.cons (o := _) rfl (fun K hK => ?_) ?_
    · rw [if_pos (by rfl)]
      have FR : ∀ t ∈ ents ⟨name, mode, uid, gid, size, mtime, typ, link, uname, gname, major, minor, pre⟩ false true true true true, t.1 ≠ 110 :: name := by simp [ents]
      obtain ⟨W', hrun, hH, hB⟩ := holds_insert hL (110 :: name) 100 (fun t ht => FR t ((hm t).1 ht))
      have hBW := hb.trans (hB w0.heap.size (Nat.le_refl _))
      go_simp
      refine hK.out _ _ (HS _ hBW) (fun _ => IH true true true true true W' (by decide) ⟨_, hH, fun t => by rw [List.mem_append, hm t]; simp [ents]; try (refine iff_of_eq ?_; ac_rfl), hBW⟩)
    exact AllReadyH.nil
  · refine wpAnyH_ready (rs := [8, 12, 16, 20]) (by kernel_rfl) (by simp) ?_
    refine AllReadyH.cons (o := _) rfl (fun K hK => ?_) ?_
    · rw [if_pos (by rfl)]
      have FR : ∀ t ∈ ents ⟨name, mode, uid, gid, size, mtime, typ, link, uname, gname, major, minor, pre⟩ true false false false false, t.1 ≠ 108 :: link := by simp [ents]
      obtain ⟨W', hrun, hH, hB⟩ := holds_insert hL (108 :: link) 100 (fun t ht => FR t ((hm t).1 ht))
      have hBW := hb.trans (hB w0.heap.size (Nat.le_refl _))
      go_simp
      refine hK.out _ _ (HS _ hBW) (fun _ => IH true true false false false W' (by decide) ⟨_, hH, fun t => by rw [List.mem_append, hm t]; simp [ents]; try (refine iff_of_eq ?_; ac_rfl), hBW⟩)
    refine AllReadyH.cons (o := _) rfl (fun K hK => ?_) ?_
    · rw [if_pos (by rfl)]
      have FR : ∀ t ∈ ents ⟨name, mode, uid, gid, size, mtime, typ, link, uname, gname, major, minor, pre⟩ true false false false false, t.1 ≠ 117 :: uname := by simp [ents]
      obtain ⟨W', hrun, hH, hB⟩ := holds_insert hL (117 :: uname) 32 (fun t ht => FR t ((hm t).1 ht))
      have hBW := hb.trans (hB w0.heap.size (Nat.le_refl _))
      go_simp
      refine hK.out _ _ (HS _ hBW) (fun _ => IH true false true false false W' (by decide) ⟨_, hH, fun t => by rw [List.mem_append, hm t]; simp [ents]; try (refine iff_of_eq ?_; ac_rfl), hBW⟩)
    refine AllReadyH.cons (o := _) rfl (fun K hK => ?_) ?_
    · rw [if_pos (by rfl)]
      have FR : ∀ t ∈ ents ⟨name, mode, uid, gid, size, mtime, typ, link, uname, gname, major, minor, pre⟩ true false false false false, t.1 ≠ 103 :: gname := by simp [ents]
      obtain ⟨W', hrun, hH, hB⟩ := holds_insert hL (103 :: gname) 32 (fun t ht => FR t ((hm t).1 ht))
      have hBW := hb.trans (hB w0.heap.size (Nat.le_refl _))
      go_simp
      refine hK.out _ _ (HS _ hBW) (fun _ => IH true false false true false W' (by decide) ⟨_, hH, fun t => by rw [List.mem_append, hm t]; simp [ents]; try (refine iff_of_eq ?_; ac_rfl), hBW⟩)
    refine AllReadyH.cons (o := _) rfl (fun K hK => ?_) ?_
    · rw [if_pos (by rfl)]
      have FR : ∀ t ∈ ents ⟨name, mode, uid, gid, size, mtime, typ, link, uname, gname, major, minor, pre⟩ true false false false false, t.1 ≠ 112 :: pre := by simp [ents]
      obtain ⟨W', hrun, hH, hB⟩ := holds_insert hL (112 :: pre) 155 (fun t ht => FR t ((hm t).1 ht))
      have hBW := hb.trans (hB w0.heap.size (Nat.le_refl _))
      go_simp
      refine hK.out _ _ (HS _ hBW) (fun _ => IH true false false false true W' (by decide) ⟨_, hH, fun t => by rw [List.mem_append, hm t]; simp [ents]; try (refine iff_of_eq ?_; ac_rfl), hBW⟩)
    exact AllReadyH.nil
  · refine wpAnyH_ready (rs := [8, 12, 16]) (by kernel_rfl) (by simp) ?_
    refine AllReadyH.cons (o := _) rfl (fun K hK => ?_) ?_
    · rw [if_pos (by rfl)]
      have FR : ∀ t ∈ ents ⟨name, mode, uid, gid, size, mtime, typ, link, uname, gname, major, minor, pre⟩ true false false false true, t.1 ≠ 108 :: link := by simp [ents]
      obtain ⟨W', hrun, hH, hB⟩ := holds_insert hL (108 :: link) 100 (fun t ht => FR t ((hm t).1 ht))
      have hBW := hb.trans (hB w0.heap.size (Nat.le_refl _))
      go_simp
      refine hK.out _ _ (HS _ hBW) (fun _ => IH true true false false true W' (by decide) ⟨_, hH, fun t => by rw [List.mem_append, hm t]; simp [ents]; try (refine iff_of_eq ?_; ac_rfl), hBW⟩)
    refine AllReadyH.cons (o := _) rfl (fun K hK => ?_) ?_
    · rw [if_pos (by rfl)]
      have FR : ∀ t ∈ ents ⟨name, mode, uid, gid, size, mtime, typ, link, uname, gname, major, minor, pre⟩ true false false false true, t.1 ≠ 117 :: uname := by simp [ents]
      obtain ⟨W', hrun, hH, hB⟩ := holds_insert hL (117 :: uname) 32 (fun t ht => FR t ((hm t).1 ht))
      have hBW := hb.trans (hB w0.heap.size (Nat.le_refl _))
      go_simp
      refine hK.out _ _ (HS _ hBW) (fun _ => IH true false true false true W' (by decide) ⟨_, hH, fun t => by rw [List.mem_append, hm t]; simp [ents]; try (refine iff_of_eq ?_; ac_rfl), hBW⟩)
    refine AllReadyH.cons (o := _) rfl (fun K hK => ?_) ?_
    · rw [if_pos (by rfl)]
      have FR : ∀ t ∈ ents ⟨name, mode, uid, gid, size, mtime, typ, link, uname, gname, major, minor, pre⟩ true false false false true, t.1 ≠ 103 :: gname := by simp [ents]
      obtain ⟨W', hrun, hH, hB⟩ := holds_insert hL (103 :: gname) 32 (fun t ht => FR t ((hm t).1 ht))
      have hBW := hb.trans (hB w0.heap.size (Nat.le_refl _))
      go_simp
      refine hK.out _ _ (HS _ hBW) (fun _ => IH true false false true true W' (by decide) ⟨_, hH, fun t => by rw [List.mem_append, hm t]; simp [ents]; try (refine iff_of_eq ?_; ac_rfl), hBW⟩)
    exact AllReadyH.nil
  · refine wpAnyH_ready (rs := [8, 12, 20]) (by kernel_rfl) (by simp) ?_
    refine AllReadyH.cons (o := _) rfl (fun K hK => ?_) ?_
    · rw [if_pos (by rfl)]
      have FR : ∀ t ∈ ents ⟨name, mode, uid, gid, size, mtime, typ, link, uname, gname, major, minor, pre⟩ true false false true false, t.1 ≠ 108 :: link := by simp [ents]
      obtain ⟨W', hrun, hH, hB⟩ := holds_insert hL (108 :: link) 100 (fun t ht => FR t ((hm t).1 ht))
      have hBW := hb.trans (hB w0.heap.size (Nat.le_refl _))
      go_simp
      refine hK.out _ _ (HS _ hBW) (fun _ => IH true true false true false W' (by decide) ⟨_, hH, fun t => by rw [List.mem_append, hm t]; simp [ents]; try (refine iff_of_eq ?_; ac_rfl), hBW⟩)
    refine AllReadyH.cons (o := _) rfl (fun K hK => ?_) ?_
    · rw [if_pos (by rfl)]
      have FR : ∀ t ∈ ents ⟨name, mode, uid, gid, size, mtime, typ, link, uname, gname, major, minor, pre⟩ true false false true false, t.1 ≠ 117 :: uname := by simp [ents]
      obtain ⟨W', hrun, hH, hB⟩ := holds_insert hL (117 :: uname) 32 (fun t ht => FR t ((hm t).1 ht))
      have hBW := hb.trans (hB w0.heap.size (Nat.le_refl _))
      go_simp
      refine hK.out _ _ (HS _ hBW) (fun _ => IH true false true true false W' (by decide) ⟨_, hH, fun t => by rw [List.mem_append, hm t]; simp [ents]; try (refine iff_of_eq ?_; ac_rfl), hBW⟩)
    refine AllReadyH.cons (o := _) rfl (fun K hK => ?_) ?_
    · rw [if_pos (by rfl)]
      have FR : ∀ t ∈ ents ⟨name, mode, uid, gid, size, mtime, typ, link, uname, gname, major, minor, pre⟩ true false false true false, t.1 ≠ 112 :: pre := by simp [ents]
      obtain ⟨W', hrun, hH, hB⟩ := holds_insert hL (112 :: pre) 155 (fun t ht => FR t ((hm t).1 ht))
      have hBW := hb.trans (hB w0.heap.size (Nat.le_refl _))
      go_simp
      refine hK.out _ _ (HS _ hBW) (fun _ => IH true false false true true W' (by decide) ⟨_, hH, fun t => by rw [List.mem_append, hm t]; simp [ents]; try (refine iff_of_eq ?_; ac_rfl), hBW⟩)
    exact AllReadyH.nil
  · refine wpAnyH_ready (rs := [8, 12]) (by kernel_rfl) (by simp) ?_
    refine AllReadyH.cons (o := _) rfl (fun K hK => ?_) ?_
    · rw [if_pos (by rfl)]
      have FR : ∀ t ∈ ents ⟨name, mode, uid, gid, size, mtime, typ, link, uname, gname, major, minor, pre⟩ true false false true true, t.1 ≠ 108 :: link := by simp [ents]
      obtain ⟨W', hrun, hH, hB⟩ := holds_insert hL (108 :: link) 100 (fun t ht => FR t ((hm t).1 ht))
      have hBW := hb.trans (hB w0.heap.size (Nat.le_refl _))
      go_simp
      refine hK.out _ _ (HS _ hBW) (fun _ => IH true true false true true W' (by decide) ⟨_, hH, fun t => by rw [List.mem_append, hm t]; simp [ents]; try (refine iff_of_eq ?_; ac_rfl), hBW⟩)
    refine AllReadyH.cons (o := _) rfl (fun K hK => ?_) ?_
    · rw [if_pos (by rfl)]
      have FR : ∀ t ∈ ents ⟨name, mode, uid, gid, size, mtime, typ, link, uname, gname, major, minor, pre⟩ true false false true true, t.1 ≠ 117 :: uname := by simp [ents]
      obtain ⟨W', hrun, hH, hB⟩ := holds_insert hL (117 :: uname) 32 (fun t ht => FR t ((hm t).1 ht))
      have hBW := hb.trans (hB w0.heap.size (Nat.le_refl _))
      go_simp
      refine hK.out _ _ (HS _ hBW) (fun _ => IH true false true true true W' (by decide) ⟨_, hH, fun t => by rw [List.mem_append, hm t]; simp [ents]; try (refine iff_of_eq ?_; ac_rfl), hBW⟩)
    exact AllReadyH.nil
  · refine wpAnyH_ready (rs := [8, 16, 20]) (by kernel_rfl) (by simp) ?_
    refine AllReadyH.cons (o := _) rfl (fun K hK => ?_) ?_
    · rw [if_pos (by rfl)]
      have FR : ∀ t ∈ ents ⟨name, mode, uid, gid, size, mtime, typ, link, uname, gname, major, minor, pre⟩ true false true false false, t.1 ≠ 108 :: link := by simp [ents]
      obtain ⟨W', hrun, hH, hB⟩ := holds_insert hL (108 :: link) 100 (fun t ht => FR t ((hm t).1 ht))
      have hBW := hb.trans (hB w0.heap.size (Nat.le_refl _))
      go_simp
      refine hK.out _ _ (HS _ hBW) (fun _ => IH true true true false false W' (by decide) ⟨_, hH, fun t => by rw [List.mem_append, hm t]; simp [ents]; try (refine iff_of_eq ?_; ac_rfl), hBW⟩)
    refine AllReadyH.cons (o := _) rfl (fun K hK => ?_) ?_
    · rw [if_pos (by rfl)]
      have FR : ∀ t ∈ ents ⟨name, mode, uid, gid, size, mtime, typ, link, uname, gname, major, minor, pre⟩ true false true false false, t.1 ≠ 103 :: gname := by simp [ents]
      obtain ⟨W', hrun, hH, hB⟩ := holds_insert hL (103 :: gname) 32 (fun t ht => FR t ((hm t).1 ht))
      have hBW := hb.trans (hB w0.heap.size (Nat.le_refl _))
      go_simp
      refine hK.out _ _ (HS _ hBW) (fun _ => IH true false true true false W' (by decide) ⟨_, hH, fun t => by rw [List.mem_append, hm t]; simp [ents]; try (refine iff_of_eq ?_; ac_rfl), hBW⟩)
    refine AllReadyH.cons (o := _) rfl (fun K hK => ?_) ?_
    · rw [if_pos (by rfl)]
      have FR : ∀ t ∈ ents ⟨name, mode, uid, gid, size, mtime, typ, link, uname, gname, major, minor, pre⟩ true false true false false, t.1 ≠ 112 :: pre := by simp [ents]
      obtain ⟨W', hrun, hH, hB⟩ := holds_insert hL (112 :: pre) 155 (fun t ht => FR t ((hm t).1 ht))
      have hBW := hb.trans (hB w0.heap.size (Nat.le_refl _))
      go_simp
      refine hK.out _ _ (HS _ hBW) (fun _ => IH true false true false true W' (by decide) ⟨_, hH, fun t => by rw [List.mem_append, hm t]; simp [ents]; try (refine iff_of_eq ?_; ac_rfl), hBW⟩)
    exact AllReadyH.nil
  · refine wpAnyH_ready (rs := [8, 16]) (by kernel_rfl) (by simp) ?_
    refine AllReadyH.cons (o := _) rfl (fun K hK => ?_) ?_
    · rw [if_pos (by rfl)]
      have FR : ∀ t ∈ ents ⟨name, mode, uid, gid, size, mtime, typ, link, uname, gname, major, minor, pre⟩ true false true false true, t.1 ≠ 108 :: link := by simp [ents]
      obtain ⟨W', hrun, hH, hB⟩ := holds_insert hL (108 :: link) 100 (fun t ht => FR t ((hm t).1 ht))
      have hBW := hb.trans (hB w0.heap.size (Nat.le_refl _))
      go_simp
      refine hK.out _ _ (HS _ hBW) (fun _ => IH true true true false true W' (by decide) ⟨_, hH, fun t => by rw [List.mem_append, hm t]; simp [ents]; try (refine iff_of_eq ?_; ac_rfl), hBW⟩)
    refine AllReadyH.cons (o := _) rfl (fun K hK => ?_) ?_
    · rw [if_pos (by rfl)]
      have FR : ∀ t ∈ ents ⟨name, mode, uid, gid, size, mtime, typ, link, uname, gname, major, minor, pre⟩ true false true false true, t.1 ≠ 103 :: gname := by simp [ents]
      obtain ⟨W', hrun, hH, hB⟩ := holds_insert hL (103 :: gname) 32 (fun t ht => FR t ((hm t).1 ht))
      have hBW := hb.trans (hB w0.heap.size (Nat.le_refl _))
      go_simp
      refine hK.out _ _ (HS _ hBW) (fun _ => IH true false true true true W' (by decide) ⟨_, hH, fun t => by rw [List.mem_append, hm t]; simp [ents]; try (refine iff_of_eq ?_; ac_rfl), hBW⟩)
    exact AllReadyH.nil
  · refine wpAnyH_ready (rs := [8, 20]) (by kernel_rfl) (by simp) ?_
    refine AllReadyH.cons (o := _) rfl (fun K hK => ?_) ?_
    · rw [if_pos (by rfl)]
      have FR : ∀ t ∈ ents ⟨name, mode, uid, gid, size, mtime, typ, link, uname, gname, major, minor, pre⟩ true false true true false, t.1 ≠ 108 :: link := by simp [ents]
      obtain ⟨W', hrun, hH, hB⟩ := holds_insert hL (108 :: link) 100 (fun t ht => FR t ((hm t).1 ht))
      have hBW := hb.trans (hB w0.heap.size (Nat.le_refl _))
      go_simp
      refine hK.out _ _ (HS _ hBW) (fun _ => IH true true true true false W' (by decide) ⟨_, hH, fun t => by rw [List.mem_append, hm t]; simp [ents]; try (refine iff_of_eq ?_; ac_rfl), hBW⟩)
    refine AllReadyH.cons (o := _) rfl (fun K hK => ?_) ?_
    · rw [if_pos (by rfl)]
      have FR : ∀ t ∈ ents ⟨name, mode, uid, gid, size, mtime, typ, link, uname, gname, major, minor, pre⟩ true false true true false, t.1 ≠ 112 :: pre := by simp [ents]
      obtain ⟨W', hrun, hH, hB⟩ := holds_insert hL (112 :: pre) 155 (fun t ht => FR t ((hm t).1 ht))
      have hBW := hb.trans (hB w0.heap.size (Nat.le_refl _))
      go_simp
      refine hK.out _ _ (HS _ hBW) (fun _ => IH true false true true true W' (by decide) ⟨_, hH, fun t => by rw [List.mem_append, hm t]; simp [ents]; try (refine iff_of_eq ?_; ac_rfl), hBW⟩)
    exact AllReadyH.nil
  · refine wpAnyH_ready (rs := [8]) (by kernel_rfl) (by simp) ?_
    refine AllReadyH.cons (o := _) rfl (fun K hK => ?_) ?_
    · rw [if_pos (by rfl)]
      have FR : ∀ t ∈ ents ⟨name, mode, uid, gid, size, mtime, typ, link, uname, gname, major, minor, pre⟩ true false true true true, t.1 ≠ 108 :: link := by simp [ents]
      obtain ⟨W', hrun, hH, hB⟩ := holds_insert hL (108 :: link) 100 (fun t ht => FR t ((hm t).1 ht))
      have hBW := hb.trans (hB w0.heap.size (Nat.le_refl _))
      go_simp
      refine hK.out _ _ (HS _ hBW) (fun _ => IH true true true true true W' (by decide) ⟨_, hH, fun t => by rw [List.mem_append, hm t]; simp [ents]; try (refine iff_of_eq ?_; ac_rfl), hBW⟩)
    exact AllReadyH.nil
  · refine wpAnyH_ready (rs := [12, 16, 20]) (by kernel_rfl) (by simp) ?_
    refine AllReadyH.cons (o := _) rfl (fun K hK => ?_) ?_
    · rw [if_pos (by rfl)]
      have FR : ∀ t ∈ ents ⟨name, mode, uid, gid, size, mtime, typ, link, uname, gname, major, minor, pre⟩ true true false false false, t.1 ≠ 117 :: uname := by simp [ents]
      obtain ⟨W', hrun, hH, hB⟩ := holds_insert hL (117 :: uname) 32 (fun t ht => FR t ((hm t).1 ht))
      have hBW := hb.trans (hB w0.heap.size (Nat.le_refl _))
      go_simp
      refine hK.out _ _ (HS _ hBW) (fun _ => IH true true true false false W' (by decide) ⟨_, hH, fun t => by rw [List.mem_append, hm t]; simp [ents]; try (refine iff_of_eq ?_; ac_rfl), hBW⟩)
    refine AllReadyH.cons (o := _) rfl (fun K hK => ?_) ?_
    · rw [if_pos (by rfl)]
      have FR : ∀ t ∈ ents ⟨name, mode, uid, gid, size, mtime, typ, link, uname, gname, major, minor, pre⟩ true true false false false, t.1 ≠ 103 :: gname := by simp [ents]
      obtain ⟨W', hrun, hH, hB⟩ := holds_insert hL (103 :: gname) 32 (fun t ht => FR t ((hm t).1 ht))
      have hBW := hb.trans (hB w0.heap.size (Nat.le_refl _))
      go_simp
      refine hK.out _ _ (HS _ hBW) (fun _ => IH true true false true false W' (by decide) ⟨_, hH, fun t => by rw [List.mem_append, hm t]; simp [ents]; try (refine iff_of_eq ?_; ac_rfl), hBW⟩)
    refine AllReadyH.cons (o := _) rfl (fun K hK => ?_) ?_
    · rw [if_pos (by rfl)]
      have FR : ∀ t ∈ ents ⟨name, mode, uid, gid, size, mtime, typ, link, uname, gname, major, minor, pre⟩ true true false false false, t.1 ≠ 112 :: pre := by simp [ents]
      obtain ⟨W', hrun, hH, hB⟩ := holds_insert hL (112 :: pre) 155 (fun t ht => FR t ((hm t).1 ht))
      have hBW := hb.trans (hB w0.heap.size (Nat.le_refl _))
      go_simp
      refine hK.out _ _ (HS _ hBW) (fun _ => IH true true false false true W' (by decide) ⟨_, hH, fun t => by rw [List.mem_append, hm t]; simp [ents]; try (refine iff_of_eq ?_; ac_rfl), hBW⟩)
    exact AllReadyH.nil
  · refine wpAnyH_ready (rs := [12, 16]) (by kernel_rfl) (by simp) ?_
    refine AllReadyH.cons (o := _) rfl (fun K hK => ?_) ?_
    · rw [if_pos (by rfl)]
      have FR : ∀ t ∈ ents ⟨name, mode, uid, gid, size, mtime, typ, link, uname, gname, major, minor, pre⟩ true true false false true, t.1 ≠ 117 :: uname := by simp [ents]
      obtain ⟨W', hrun, hH, hB⟩ := holds_insert hL (117 :: uname) 32 (fun t ht => FR t ((hm t).1 ht))
      have hBW := hb.trans (hB w0.heap.size (Nat.le_refl _))
      go_simp
      refine hK.out _ _ (HS _ hBW) (fun _ => IH true true true false true W' (by decide) ⟨_, hH, fun t => by rw [List.mem_append, hm t]; simp [ents]; try (refine iff_of_eq ?_; ac_rfl), hBW⟩)
    refine AllReadyH.cons (o := _) rfl (fun K hK => ?_) ?_
    · rw [if_pos (by rfl)]
      have FR : ∀ t ∈ ents ⟨name, mode, uid, gid, size, mtime, typ, link, uname, gname, major, minor, pre⟩ true true false false true, t.1 ≠ 103 :: gname := by simp [ents]
      obtain ⟨W', hrun, hH, hB⟩ := holds_insert hL (103 :: gname) 32 (fun t ht => FR t ((hm t).1 ht))
      have hBW := hb.trans (hB w0.heap.size (Nat.le_refl _))
      go_simp
      refine hK.out _ _ (HS _ hBW) (fun _ => IH true true false true true W' (by decide) ⟨_, hH, fun t => by rw [List.mem_append, hm t]; simp [ents]; try (refine iff_of_eq ?_; ac_rfl), hBW⟩)
    exact AllReadyH.nil
  · refine wpAnyH_ready (rs := [12, 20]) (by kernel_rfl) (by simp) ?_
    refine AllReadyH.cons (o := _) rfl (fun K hK => ?_) ?_
    · rw [if_pos (by rfl)]
      have FR : ∀ t ∈ ents ⟨name, mode, uid, gid, size, mtime, typ, link, uname, gname, major, minor, pre⟩ true true false true false, t.1 ≠ 117 :: uname := by simp [ents]
      obtain ⟨W', hrun, hH, hB⟩ := holds_insert hL (117 :: uname) 32 (fun t ht => FR t ((hm t).1 ht))
      have hBW := hb.trans (hB w0.heap.size (Nat.le_refl _))
      go_simp
      refine hK.out _ _ (HS _ hBW) (fun _ => IH true true true true false W' (by decide) ⟨_, hH, fun t => by rw [List.mem_append, hm t]; simp [ents]; try (refine iff_of_eq ?_; ac_rfl), hBW⟩)
    refine AllReadyH.cons (o := _) rfl (fun K hK => ?_) ?_
    · rw [if_pos (by rfl)]
      have FR : ∀ t ∈ ents ⟨name, mode, uid, gid, size, mtime, typ, link, uname, gname, major, minor, pre⟩ true true false true false, t.1 ≠ 112 :: pre := by simp [ents]
      obtain ⟨W', hrun, hH, hB⟩ := holds_insert hL (112 :: pre) 155 (fun t ht => FR t ((hm t).1 ht))
      have hBW := hb.trans (hB w0.heap.size (Nat.le_refl _))
      go_simp
      refine hK.out _ _ (HS _ hBW) (fun _ => IH true true false true true W' (by decide) ⟨_, hH, fun t => by rw [List.mem_append, hm t]; simp [ents]; try (refine iff_of_eq ?_; ac_rfl), hBW⟩)
    exact AllReadyH.nil
  · refine wpAnyH_ready (rs := [12]) (by kernel_rfl) (by simp) ?_
    refine AllReadyH.cons (o := _) rfl (fun K hK => ?_) ?_
    · rw [if_pos (by rfl)]
      have FR : ∀ t ∈ ents ⟨name, mode, uid, gid, size, mtime, typ, link, uname, gname, major, minor, pre⟩ true true false true true, t.1 ≠ 117 :: uname := by simp [ents]
      obtain ⟨W', hrun, hH, hB⟩ := holds_insert hL (117 :: uname) 32 (fun t ht => FR t ((hm t).1 ht))
      have hBW := hb.trans (hB w0.heap.size (Nat.le_refl _))
      go_simp
      refine hK.out _ _ (HS _ hBW) (fun _ => IH true true true true true W' (by decide) ⟨_, hH, fun t => by rw [List.mem_append, hm t]; simp [ents]; try (refine iff_of_eq ?_; ac_rfl), hBW⟩)
    exact AllReadyH.nil
  · refine wpAnyH_ready (rs := [16, 20]) (by kernel_rfl) (by simp) ?_
    refine AllReadyH.cons (o := _) rfl (fun K hK => ?_) ?_
    · rw [if_pos (by rfl)]
      have FR : ∀ t ∈ ents ⟨name, mode, uid, gid, size, mtime, typ, link, uname, gname, major, minor, pre⟩ true true true false false, t.1 ≠ 103 :: gname := by simp [ents]
      obtain ⟨W', hrun, hH, hB⟩ := holds_insert hL (103 :: gname) 32 (fun t ht => FR t ((hm t).1 ht))
      have hBW := hb.trans (hB w0.heap.size (Nat.le_refl _))
      go_simp
      refine hK.out _ _ (HS _ hBW) (fun _ => IH true true true true false W' (by decide) ⟨_, hH, fun t => by rw [List.mem_append, hm t]; simp [ents]; try (refine iff_of_eq ?_; ac_rfl), hBW⟩)
    refine AllReadyH.cons (o := _) rfl (fun K hK => ?_) ?_
    · rw [if_pos (by rfl)]
      have FR : ∀ t ∈ ents ⟨name, mode, uid, gid, size, mtime, typ, link, uname, gname, major, minor, pre⟩ true true true false false, t.1 ≠ 112 :: pre := by simp [ents]
      obtain ⟨W', hrun, hH, hB⟩ := holds_insert hL (112 :: pre) 155 (fun t ht => FR t ((hm t).1 ht))
      have hBW := hb.trans (hB w0.heap.size (Nat.le_refl _))
      go_simp
      refine hK.out _ _ (HS _ hBW) (fun _ => IH true true true false true W' (by decide) ⟨_, hH, fun t => by rw [List.mem_append, hm t]; simp [ents]; try (refine iff_of_eq ?_; ac_rfl), hBW⟩)
    exact AllReadyH.nil
  · refine wpAnyH_ready (rs := [16]) (by kernel_rfl) (by simp) ?_
    refine AllReadyH.cons (o := _) rfl (fun K hK => ?_) ?_
    · rw [if_pos (by rfl)]
      have FR : ∀ t ∈ ents ⟨name, mode, uid, gid, size, mtime, typ, link, uname, gname, major, minor, pre⟩ true true true false true, t.1 ≠ 103 :: gname := by simp [ents]
      obtain ⟨W', hrun, hH, hB⟩ := holds_insert hL (103 :: gname) 32 (fun t ht => FR t ((hm t).1 ht))
      have hBW := hb.trans (hB w0.heap.size (Nat.le_refl _))
      go_simp
      refine hK.out _ _ (HS _ hBW) (fun _ => IH true true true true true W' (by decide) ⟨_, hH, fun t => by rw [List.mem_append, hm t]; simp [ents]; try (refine iff_of_eq ?_; ac_rfl), hBW⟩)
    exact AllReadyH.nil
  · refine wpAnyH_ready (rs := [20]) (by kernel_rfl) (by simp) ?_
    refine AllReadyH.cons (o := _) rfl (fun K hK => ?_) ?_
    · rw [if_pos (by rfl)]
      have FR : ∀ t ∈ ents ⟨name, mode, uid, gid, size, mtime, typ, link, uname, gname, major, minor, pre⟩ true true true true false, t.1 ≠ 112 :: pre := by simp [ents]
      obtain ⟨W', hrun, hH, hB⟩ := holds_insert hL (112 :: pre) 155 (fun t ht => FR t ((hm t).1 ht))
      have hBW := hb.trans (hB w0.heap.size (Nat.le_refl _))
      go_simp
      refine hK.out _ _ (HS _ hBW) (fun _ => IH true true true true true W' (by decide) ⟨_, hH, fun t => by rw [List.mem_append, hm t]; simp [ents]; try (refine iff_of_eq ?_; ac_rfl), hBW⟩)
    exact AllReadyH.nil
  · clear IH
    refine wpAnyH_ready (rs := [21]) (by kernel_rfl) (by simp) ?_
    refine AllReadyH.cons (o := _) rfl (fun K hK => ?_) AllReadyH.nil
    rw [if_pos (by rfl)]
    go_simp
    refine hK.out _ _ (HS _ hb) (fun _ => ?_)
    clear hK K
    refine wpAnyH_ready (rs := [22]) (by kernel_rfl) (by simp) ?_
    refine AllReadyH.cons (o := _) rfl (fun K hK => ?_) AllReadyH.nil
    rw [if_pos (by rfl)]
    go_simp
    refine hK.out _ _ (HS _ hb) (fun _ => ?_)
    clear hK K
    refine wpAnyH_done (by kernel_rfl) ?_ _
    refine NoPanic.normal ?_
    go_wp2_with fail
    go_ret
    exact ⟨_, L, rfl, hL, fun t => by rw [hm t]; simp [ents, textEntries], hle, below_next HB0.out hb⟩
end Go.Proofs.YtpmiddhdgidimaaGreatDoor
