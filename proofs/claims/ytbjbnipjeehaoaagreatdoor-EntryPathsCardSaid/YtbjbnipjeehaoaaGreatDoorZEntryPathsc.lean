/- Lemmas for EntryPaths: entry.Head of a file that may be and makes no record. (Printed by tools/genehead.py.) entry.Put of a file that may be and makes no record. (Printed by tools/genput.py.) The entry statements' own awake. (Printed by tools/genawake.py.) The entry statements' own names and paths. EntryPaths: the walk. The start world of the rows of this seat is Good. -/
import Derived.Test.YtbjbnipjeehaoaaGreatDoorZEntryPathsb
import Derived.Test.YtbjbnipjeehaoaaGreatDoorZEntryPathsa
import Derived.Test.YtbjbnipjeehaoaaGreatDoorCards
import Derived.Lay
import Derived.Stop.LaidErr
import Derived.LaidSub
set_option linter.unusedVariables false
set_option linter.unusedSimpArgs false
namespace Go.Proofs.YtbjbnipjeehaoaaGreatDoor
open Go.RowKit Go.Proofs.YtbjbnipjeehaoaaGreatDoorW.PrintWords
theorem blk_hit {w : World} {p i : Nat} {C : Array Value} {t : TypeId} {v : Value} (h : w.heap[p]? = some (.cells C t)) : (w.setCell ⟨p, i, none⟩ v).heap[p]? = some (.cells (C.setIfInBounds i v) t) := by
  simp [World.setCell, Array.getElem?_modify, h]
theorem head_res (p : Nat) (cs : Array Value) (hl : cs.size = 13) (tmps : Array Value) (W : World) (t2 : tmps.getD 2 undef = .pointer (some ⟨p, 0, none⟩)) (H : W.heap[p]? = some (.cells cs 41)) :
    (results Tryz.f17 tmps).run Tryz.prog W = .ok (.agg cs) W := by
  have hs : (Tryz.prog.info? 41).map (·.size) = some cs.size := by rw [hl]; kernel_rfl
  replace t2 : tmps[2]?.getD undef = .pointer (some ⟨p, 0, none⟩) := by simpa using t2
  simp [results, Tryz.results17, t2, asAddr, run_loadVar_row W p 41 41 cs _ _ H Tryz.underlying41 rfl hs]
set_option maxHeartbeats 8000000 in
set_option maxRecDepth 100000 in
theorem head_ok (e : En) (h : EnFile e) (w : World) : Calls Tryz.prog 17 #[.agg (enCells e)] w fun x w' => x = .returned (.agg (H.hdCells (headE e))) ∧ Below w.heap.size w w' := by
  have HFI := Aside0.mk (fun W => first_any [] (by decide) W)
  rw [show ([] : List UInt8).take 100 = [] from rfl] at HFI
  have HSP := Aside0.mk (fun W => H.split_any e.path W (by have := h.fits.path; omega))
  have HLATE := Aside0.mk (fun W => late_any e.sec e.nano W)
  rw [h.none.early] at HLATE
  have hu := h.none.uid
  have hg := h.none.gid
  have hhd : headE e = ⟨(H.splitT e.path).2.1, e.mode, e.uid, e.gid, e.data.length, e.sec, 48, [], [], [], 0, 0, (H.splitT e.path).1⟩ := by
    unfold headE smallId
    rw [if_pos h.none.short, if_pos hu, if_pos hg, h.none.early, h.kind, h.target, h.major, h.minor]
    rfl
  rw [hhd]
  unfold H.splitV at HSP
  rw [h.none.short] at HSP
  generalize (H.splitT e.path).1 = sa at *
  generalize (H.splitT e.path).2.1 = sb at *
  have hk := h.kind
  have ht := h.target
  have hmj := h.major
  have hmi := h.minor
  have E0 := heap_alloc_new w (.cells (enCells e) 33)
  have B0 := below_alloc (Below.refl w.heap.size w) (.cells (enCells e) 33)
  clear h hhd
  obtain ⟨path, kind, mode, uid, gid, sec, nano, data, target, major, minor⟩ := e
  simp only at hk ht hmj hmi hu hg
  subst hk ht hmj hmi
  unfold enCells H.hdCells at *
  simp only at HSP HLATE E0 B0 ⊢
  have s1 : (w.alloc (.cells #[.string (mkS path), .int .i64 1, .int .i64 mode, .int .i64 uid, .int .i64 gid, .int .i64 sec, .int .i64 nano, .slice none 0 0, .slice none 0 0, .slice none 0 0, .int .i64 0, .int .u64 0, .int .u64 0, .bool false, .int .i64 0, .int .i64 0, .string (mkS data), .string (mkS []), .int .i64 0, .int .i64 0] 33)).heap.size = w.heap.size + 1 := by simp
  have R1 := heap_alloc_new (w.alloc (.cells #[.string (mkS path), .int .i64 1, .int .i64 mode, .int .i64 uid, .int .i64 gid, .int .i64 sec, .int .i64 nano, .slice none 0 0, .slice none 0 0, .slice none 0 0, .int .i64 0, .int .u64 0, .int .u64 0, .bool false, .int .i64 0, .int .i64 0, .string (mkS data), .string (mkS []), .int .i64 0, .int .i64 0] 33)) (.cells #[.string ⟨#[]⟩, .int .i64 0, .int .i64 0, .int .i64 0, .int .i64 0, .int .i64 0, .int .u8 0, .string ⟨#[]⟩, .string ⟨#[]⟩, .string ⟨#[]⟩, .int .i64 0, .int .i64 0, .string ⟨#[]⟩] 41)
  have E1 := blk_alloc E0 (.cells #[.string ⟨#[]⟩, .int .i64 0, .int .i64 0, .int .i64 0, .int .i64 0, .int .i64 0, .int .u8 0, .string ⟨#[]⟩, .string ⟨#[]⟩, .string ⟨#[]⟩, .int .i64 0, .int .i64 0, .string ⟨#[]⟩] 41)
  have B1 := below_alloc B0 (.cells #[.string ⟨#[]⟩, .int .i64 0, .int .i64 0, .int .i64 0, .int .i64 0, .int .i64 0, .int .u8 0, .string ⟨#[]⟩, .string ⟨#[]⟩, .string ⟨#[]⟩, .int .i64 0, .int .i64 0, .string ⟨#[]⟩] 41)
  have s2 : ((w.alloc (.cells #[.string (mkS path), .int .i64 1, .int .i64 mode, .int .i64 uid, .int .i64 gid, .int .i64 sec, .int .i64 nano, .slice none 0 0, .slice none 0 0, .slice none 0 0, .int .i64 0, .int .u64 0, .int .u64 0, .bool false, .int .i64 0, .int .i64 0, .string (mkS data), .string (mkS []), .int .i64 0, .int .i64 0] 33)).alloc (.cells #[.string ⟨#[]⟩, .int .i64 0, .int .i64 0, .int .i64 0, .int .i64 0, .int .i64 0, .int .u8 0, .string ⟨#[]⟩, .string ⟨#[]⟩, .string ⟨#[]⟩, .int .i64 0, .int .i64 0, .string ⟨#[]⟩] 41)).heap.size = w.heap.size + 1 + 1 := by simp
  have M2 := heap_alloc_new ((w.alloc (.cells #[.string (mkS path), .int .i64 1, .int .i64 mode, .int .i64 uid, .int .i64 gid, .int .i64 sec, .int .i64 nano, .slice none 0 0, .slice none 0 0, .slice none 0 0, .int .i64 0, .int .u64 0, .int .u64 0, .bool false, .int .i64 0, .int .i64 0, .string (mkS data), .string (mkS []), .int .i64 0, .int .i64 0] 33)).alloc (.cells #[.string ⟨#[]⟩, .int .i64 0, .int .i64 0, .int .i64 0, .int .i64 0, .int .i64 0, .int .u8 0, .string ⟨#[]⟩, .string ⟨#[]⟩, .string ⟨#[]⟩, .int .i64 0, .int .i64 0, .string ⟨#[]⟩] 41)) (.cells #[.int .i64 mode, .int .i64 uid, .int .i64 gid, .int .i64 sec, .int .i64 nano, .slice none 0 0, .slice none 0 0, .slice none 0 0, .int .i64 0, .int .u64 0, .int .u64 0, .bool false, .int .i64 0, .int .i64 0] 31)
  have R2 := blk_alloc R1 (.cells #[.int .i64 mode, .int .i64 uid, .int .i64 gid, .int .i64 sec, .int .i64 nano, .slice none 0 0, .slice none 0 0, .slice none 0 0, .int .i64 0, .int .u64 0, .int .u64 0, .bool false, .int .i64 0, .int .i64 0] 31)
  have E2 := blk_alloc E1 (.cells #[.int .i64 mode, .int .i64 uid, .int .i64 gid, .int .i64 sec, .int .i64 nano, .slice none 0 0, .slice none 0 0, .slice none 0 0, .int .i64 0, .int .u64 0, .int .u64 0, .bool false, .int .i64 0, .int .i64 0] 31)
  have B2 := below_alloc B1 (.cells #[.int .i64 mode, .int .i64 uid, .int .i64 gid, .int .i64 sec, .int .i64 nano, .slice none 0 0, .slice none 0 0, .slice none 0 0, .int .i64 0, .int .u64 0, .int .u64 0, .bool false, .int .i64 0, .int .i64 0] 31)
  rw [s2] at M2
  rw [s1] at R2
  go_enter Tryz.func17, Tryz.ntmps17
  go_wp2_with fail
  obtain ⟨W, hW⟩ : ∃ W, W = ((w.alloc (.cells #[.string (mkS path), .int .i64 1, .int .i64 mode, .int .i64 uid, .int .i64 gid, .int .i64 sec, .int .i64 nano, .slice none 0 0, .slice none 0 0, .slice none 0 0, .int .i64 0, .int .u64 0, .int .u64 0, .bool false, .int .i64 0, .int .i64 0, .string (mkS data), .string (mkS []), .int .i64 0, .int .i64 0] 33)).alloc (.cells #[.string ⟨#[]⟩, .int .i64 0, .int .i64 0, .int .i64 0, .int .i64 0, .int .i64 0, .int .u8 0, .string ⟨#[]⟩, .string ⟨#[]⟩, .string ⟨#[]⟩, .int .i64 0, .int .i64 0, .string ⟨#[]⟩] 41)).alloc (.cells #[.int .i64 mode, .int .i64 uid, .int .i64 gid, .int .i64 sec, .int .i64 nano, .slice none 0 0, .slice none 0 0, .slice none 0 0, .int .i64 0, .int .u64 0, .int .u64 0, .bool false, .int .i64 0, .int .i64 0] 31) := ⟨_, rfl⟩
  rw [← hW] at M2 R2 E2 B2 ⊢
  clear hW s1 s2 R1 E1 B1 E0 B0
  have HE := Aside0.mk E2
  have HRR := Aside0.mk R2
  have HM := Aside0.mk M2
  have BW := Aside0.mk B2
  clear E2 R2 M2 B2
  generalize hpm : w.heap.size + 1 + 1 = pm at HM ⊢
  generalize hpr : w.heap.size + 1 = pr at HRR ⊢
  obtain ⟨pe, hpe⟩ : ∃ pe, w.heap.size = pe := ⟨_, rfl⟩
  rw [hpe] at HE
  rw [show w.heap.size = pe from hpe]
  have hpr1 : pe ≤ pr := by omega
  have HPR := Aside0.mk (show w.heap.size ≤ pr by omega)
  clear hpm hpr
  refine wp_region_listX (by kernel_rfl) (by kernel_rfl) (fun j => ([some (.pointer (some ⟨pm, 0, none⟩)), some (.int .i64 mode), some (.pointer (some ⟨pe, 16, none⟩)), some (.string (mkS data)), some (.int .i64 (data.length : Int)), some (.pointer (some ⟨pe, 1, none⟩)), some (.int .i64 1), some (.int .i64 49), some (.int .i64 48), some (.int .u8 48), some (.pointer (some ⟨pe, 17, none⟩)), some (.string (mkS [])), some (.string (mkS [])), some (.pointer (some ⟨pe, 18, none⟩)), some (.int .i64 0), some (.pointer (some ⟨pe, 19, none⟩)), some (.int .i64 0), some (.agg #[.string ⟨#[]⟩, .int .i64 mode, .int .i64 0, .int .i64 0, .int .i64 (data.length : Int), .int .i64 0, .int .u8 48, .string (mkS []), .string ⟨#[]⟩, .string ⟨#[]⟩, .int .i64 0, .int .i64 0, .string ⟨#[]⟩]), none, none] : List (Option Value)).getD j none) (by kernel_rfl) (stX 18 19 W.heap.size #[.string ⟨#[]⟩, .int .i64 mode, .int .i64 0, .int .i64 0, .int .i64 (data.length : Int), .int .i64 0, .int .u8 48, .string (mkS []), .string ⟨#[]⟩, .string ⟨#[]⟩, .int .i64 0, .int .i64 0, .string ⟨#[]⟩] #[.string ⟨#[]⟩, .int .i64 0, .int .i64 0, .int .i64 0, .int .i64 0, .int .i64 0, .int .u8 0, .string ⟨#[]⟩, .string ⟨#[]⟩, .string ⟨#[]⟩, .int .i64 0, .int .i64 0, .string ⟨#[]⟩] 41) (fun vs => [(some 10, .pointer (some ⟨pm, 0, none⟩)), (some 11, .int .i64 mode), (some 12, .pointer (some ⟨pe, 16, none⟩)), (some 13, .string (mkS data)), (some 14, .int .i64 (data.length : Int)), (some 15, .pointer (some ⟨pe, 1, none⟩)), (some 16, .int .i64 1), (some 17, .int .i64 49), (some 18, .int .i64 48), (some 19, .int .u8 48), (some 20, .pointer (some ⟨pe, 17, none⟩)), (some 21, .string (mkS [])), (some 22, .string (mkS [])), (some 23, .pointer (some ⟨pe, 18, none⟩)), (some 24, .int .i64 0), (some 25, .pointer (some ⟨pe, 19, none⟩)), (some 26, .int .i64 0), (some 27, .agg #[.string ⟨#[]⟩, .int .i64 mode, .int .i64 0, .int .i64 0, .int .i64 (data.length : Int), .int .i64 0, .int .u8 48, .string (mkS []), .string ⟨#[]⟩, .string ⟨#[]⟩, .int .i64 0, .int .i64 0, .string ⟨#[]⟩]), (some 4, vs 18), (none, vs 19)]) (fun _ => by kernel_rfl) ⟨fun h => (nomatch h), fun h => (nomatch h)⟩ (AllAt.cons ?_ (AllAt.cons ?_ (AllAt.cons ?_ (AllAt.cons ?_ (AllAt.cons ?_ (AllAt.cons ?_ (AllAt.cons ?_ (AllAt.cons ?_ (AllAt.cons ?_ (AllAt.cons ?_ (AllAt.cons ?_ (AllAt.cons ?_ (AllAt.cons ?_ (AllAt.cons ?_ (AllAt.cons ?_ (AllAt.cons ?_ (AllAt.cons ?_ (AllAt.cons ?_ (AllAt.cons ?_ (AllAt.cons ?_ (AllAt.nil))))))))))))))))))))) ?_
  · intro L vs a' w' hL hA hF hG K hK
    have e3 : a'.tmps[3]? = some (.pointer (some ⟨pm, 0, none⟩)) := hF.old rfl (by kernel_rfl)
    clear hF hA hL
    go_simp
    exact hK _ _ (hG.next_val rfl (stX_step hG.ex (by decide) (by decide) (Below.refl _ _)) (Below.refl _ _))
  · intro L vs a' w' hL hA hF hG K hK
    have e10 : a'.tmps[10]? = some (.pointer (some ⟨pm, 0, none⟩)) := hG.at hF 0 10 (hA ⟨0, .data⟩ (by simp) rfl) rfl rfl
    have hblk := (hG.below.block pm (blk_lt HM.out)).trans HM.out
    have c0 : w'.cell? ⟨pm, 0, none⟩ = some (.int .i64 mode) := blk_cell hblk 0
    have lg := blk_lt hblk
    clear hblk hF hA hL
    go_simp
    exact hK _ _ (hG.next_val rfl (stX_step hG.ex (by decide) (by decide) (Below.refl _ _)) (Below.refl _ _))
  · intro L vs a' w' hL hA hF hG K hK
    have e1 : a'.tmps[1]? = some (.pointer (some ⟨pe, 0, none⟩)) := hF.old rfl (by kernel_rfl)
    clear hF hA hL
    go_simp
    exact hK _ _ (hG.next_val rfl (stX_step hG.ex (by decide) (by decide) (Below.refl _ _)) (Below.refl _ _))
  · intro L vs a' w' hL hA hF hG K hK
    have e12 : a'.tmps[12]? = some (.pointer (some ⟨pe, 16, none⟩)) := hG.at hF 2 12 (hA ⟨2, .data⟩ (by simp) rfl) rfl rfl
    have hblk := (hG.below.block pe (blk_lt HE.out)).trans HE.out
    have c16 : w'.cell? ⟨pe, 16, none⟩ = some (.string (mkS data)) := blk_cell hblk 16
    have lg := blk_lt hblk
    clear hblk hF hA hL
    go_simp
    exact hK _ _ (hG.next_val rfl (stX_step hG.ex (by decide) (by decide) (Below.refl _ _)) (Below.refl _ _))
  · intro L vs a' w' hL hA hF hG K hK
    have e13 : a'.tmps[13]? = some (.string (mkS data)) := hG.at hF 3 13 (hA ⟨3, .data⟩ (by simp) rfl) rfl rfl
    clear hF hA hL
    go_simp
    exact hK _ _ (hG.next_val rfl (stX_step hG.ex (by decide) (by decide) (Below.refl _ _)) (Below.refl _ _))
  · intro L vs a' w' hL hA hF hG K hK
    have e1 : a'.tmps[1]? = some (.pointer (some ⟨pe, 0, none⟩)) := hF.old rfl (by kernel_rfl)
    clear hF hA hL
    go_simp
    exact hK _ _ (hG.next_val rfl (stX_step hG.ex (by decide) (by decide) (Below.refl _ _)) (Below.refl _ _))
  · intro L vs a' w' hL hA hF hG K hK
    have e15 : a'.tmps[15]? = some (.pointer (some ⟨pe, 1, none⟩)) := hG.at hF 5 15 (hA ⟨5, .data⟩ (by simp) rfl) rfl rfl
    have hblk := (hG.below.block pe (blk_lt HE.out)).trans HE.out
    have c1 : w'.cell? ⟨pe, 1, none⟩ = some (.int .i64 1) := blk_cell hblk 1
    have lg := blk_lt hblk
    clear hblk hF hA hL
    go_simp
    exact hK _ _ (hG.next_val rfl (stX_step hG.ex (by decide) (by decide) (Below.refl _ _)) (Below.refl _ _))
  · intro L vs a' w' hL hA hF hG K hK
    have e16 : a'.tmps[16]? = some (.int .i64 1) := hG.at hF 6 16 (hA ⟨6, .data⟩ (by simp) rfl) rfl rfl
    clear hF hA hL
    go_simp
    exact hK _ _ (hG.next_val rfl (stX_step hG.ex (by decide) (by decide) (Below.refl _ _)) (Below.refl _ _))
  · intro L vs a' w' hL hA hF hG K hK
    have e17 : a'.tmps[17]? = some (.int .i64 49) := hG.at hF 7 17 (hA ⟨7, .data⟩ (by simp) rfl) rfl rfl
    clear hF hA hL
    go_simp
    exact hK _ _ (hG.next_val rfl (stX_step hG.ex (by decide) (by decide) (Below.refl _ _)) (Below.refl _ _))
  · intro L vs a' w' hL hA hF hG K hK
    have e18 : a'.tmps[18]? = some (.int .i64 48) := hG.at hF 8 18 (hA ⟨8, .data⟩ (by simp) rfl) rfl rfl
    clear hF hA hL
    go_simp
    exact hK _ _ (hG.next_val rfl (stX_step hG.ex (by decide) (by decide) (Below.refl _ _)) (Below.refl _ _))
  · intro L vs a' w' hL hA hF hG K hK
    have e1 : a'.tmps[1]? = some (.pointer (some ⟨pe, 0, none⟩)) := hF.old rfl (by kernel_rfl)
    clear hF hA hL
    go_simp
    exact hK _ _ (hG.next_val rfl (stX_step hG.ex (by decide) (by decide) (Below.refl _ _)) (Below.refl _ _))
  · intro L vs a' w' hL hA hF hG K hK
    have e20 : a'.tmps[20]? = some (.pointer (some ⟨pe, 17, none⟩)) := hG.at hF 10 20 (hA ⟨10, .data⟩ (by simp) rfl) rfl rfl
    have hblk := (hG.below.block pe (blk_lt HE.out)).trans HE.out
    have c17 : w'.cell? ⟨pe, 17, none⟩ = some (.string (mkS [])) := blk_cell hblk 17
    have lg := blk_lt hblk
    clear hblk hF hA hL
    go_simp
    exact hK _ _ (hG.next_val rfl (stX_step hG.ex (by decide) (by decide) (Below.refl _ _)) (Below.refl _ _))
  · intro L vs a' w' hL hA hF hG K hK
    have e21 : a'.tmps[21]? = some (.string (mkS [])) := hG.at hF 11 21 (hA ⟨11, .data⟩ (by simp) rfl) rfl rfl
    clear hF hA hL
    go_simp
    refine (HFI.out _).mono ?_
    rintro x w2 ⟨rfl, rfl⟩
    exact hK _ _ (hG.next_val rfl (stX_step hG.ex (by decide) (by decide) (Below.refl _ _)) (Below.refl _ _))
  · intro L vs a' w' hL hA hF hG K hK
    have e1 : a'.tmps[1]? = some (.pointer (some ⟨pe, 0, none⟩)) := hF.old rfl (by kernel_rfl)
    clear hF hA hL
    go_simp
    exact hK _ _ (hG.next_val rfl (stX_step hG.ex (by decide) (by decide) (Below.refl _ _)) (Below.refl _ _))
  · intro L vs a' w' hL hA hF hG K hK
    have e23 : a'.tmps[23]? = some (.pointer (some ⟨pe, 18, none⟩)) := hG.at hF 13 23 (hA ⟨13, .data⟩ (by simp) rfl) rfl rfl
    have hblk := (hG.below.block pe (blk_lt HE.out)).trans HE.out
    have c18 : w'.cell? ⟨pe, 18, none⟩ = some (.int .i64 0) := blk_cell hblk 18
    have lg := blk_lt hblk
    clear hblk hF hA hL
    go_simp
    exact hK _ _ (hG.next_val rfl (stX_step hG.ex (by decide) (by decide) (Below.refl _ _)) (Below.refl _ _))
  · intro L vs a' w' hL hA hF hG K hK
    have e1 : a'.tmps[1]? = some (.pointer (some ⟨pe, 0, none⟩)) := hF.old rfl (by kernel_rfl)
    clear hF hA hL
    go_simp
    exact hK _ _ (hG.next_val rfl (stX_step hG.ex (by decide) (by decide) (Below.refl _ _)) (Below.refl _ _))
  · intro L vs a' w' hL hA hF hG K hK
    have e25 : a'.tmps[25]? = some (.pointer (some ⟨pe, 19, none⟩)) := hG.at hF 15 25 (hA ⟨15, .data⟩ (by simp) rfl) rfl rfl
    have hblk := (hG.below.block pe (blk_lt HE.out)).trans HE.out
    have c19 : w'.cell? ⟨pe, 19, none⟩ = some (.int .i64 0) := blk_cell hblk 19
    have lg := blk_lt hblk
    clear hblk hF hA hL
    go_simp
    exact hK _ _ (hG.next_val rfl (stX_step hG.ex (by decide) (by decide) (Below.refl _ _)) (Below.refl _ _))
  · intro L vs a' w' hL hA hF hG K hK
    have e11 : a'.tmps[11]? = some (.int .i64 mode) := hG.at hF 1 11 (hA ⟨1, .data⟩ (by simp) rfl) rfl rfl
    have e14 : a'.tmps[14]? = some (.int .i64 (data.length : Int)) := hG.at hF 4 14 (hA ⟨4, .data⟩ (by simp) rfl) rfl rfl
    have e19 : a'.tmps[19]? = some (.int .u8 48) := hG.at hF 9 19 (hA ⟨9, .data⟩ (by simp) rfl) rfl rfl
    have e22 : a'.tmps[22]? = some (.string (mkS [])) := hG.at hF 12 22 (hA ⟨12, .data⟩ (by simp) rfl) rfl rfl
    have e24 : a'.tmps[24]? = some (.int .i64 0) := hG.at hF 14 24 (hA ⟨14, .data⟩ (by simp) rfl) rfl rfl
    have e26 : a'.tmps[26]? = some (.int .i64 0) := hG.at hF 16 26 (hA ⟨16, .data⟩ (by simp) rfl) rfl rfl
    clear hF hA hL
    go_simp
    exact hK _ _ (hG.next_val rfl (stX_step hG.ex (by decide) (by decide) (Below.refl _ _)) (Below.refl _ _))
  · intro L vs a' w' hL hA hF hG K hK
    clear hF hA
    go_simp
    exact hK _ _ (hG.next_mk rfl (stX_alloc hG.ex (by decide) hL hG.below.size) (hG.below.alloc hG.below.size _))
  · intro L vs a' w' hL hA hF hG K hK
    have e27 : a'.tmps[27]? = some (.agg #[.string ⟨#[]⟩, .int .i64 mode, .int .i64 0, .int .i64 0, .int .i64 (data.length : Int), .int .i64 0, .int .u8 48, .string (mkS []), .string ⟨#[]⟩, .string ⟨#[]⟩, .int .i64 0, .int .i64 0, .string ⟨#[]⟩]) := hG.at hF 17 27 (hA ⟨17, .data⟩ (by simp) rfl) rfl rfl
    obtain ⟨q, hq, hqb, hqc⟩ := hG.ex.2 (hA ⟨18, .data⟩ (by simp) rfl)
    have e4 : a'.tmps[4]? = some (.pointer (some ⟨q, 0, none⟩)) := by rw [hF.hit 18 4 (hA ⟨18, .data⟩ (by simp) rfl) rfl, hq]
    have h18 := hA ⟨18, .data⟩ (by simp) rfl
    rw [if_neg (by rw [show L 19 = false from hL]; decide)] at hqc
    have c0 : w'.cell? ⟨q, 0, none⟩ = some (.string ⟨#[]⟩) := blk_cell hqc 0
    have f0 := blk_frozen hqc 0
    have c1 : w'.cell? ⟨q, 1, none⟩ = some (.int .i64 0) := blk_cell hqc 1
    have f1 := blk_frozen hqc 1
    have c2 : w'.cell? ⟨q, 2, none⟩ = some (.int .i64 0) := blk_cell hqc 2
    have f2 := blk_frozen hqc 2
    have c3 : w'.cell? ⟨q, 3, none⟩ = some (.int .i64 0) := blk_cell hqc 3
    have f3 := blk_frozen hqc 3
    have c4 : w'.cell? ⟨q, 4, none⟩ = some (.int .i64 0) := blk_cell hqc 4
    have f4 := blk_frozen hqc 4
    have c5 : w'.cell? ⟨q, 5, none⟩ = some (.int .i64 0) := blk_cell hqc 5
    have f5 := blk_frozen hqc 5
    have c6 : w'.cell? ⟨q, 6, none⟩ = some (.int .u8 0) := blk_cell hqc 6
    have f6 := blk_frozen hqc 6
    have c7 : w'.cell? ⟨q, 7, none⟩ = some (.string ⟨#[]⟩) := blk_cell hqc 7
    have f7 := blk_frozen hqc 7
    have c8 : w'.cell? ⟨q, 8, none⟩ = some (.string ⟨#[]⟩) := blk_cell hqc 8
    have f8 := blk_frozen hqc 8
    have c9 : w'.cell? ⟨q, 9, none⟩ = some (.string ⟨#[]⟩) := blk_cell hqc 9
    have f9 := blk_frozen hqc 9
    have c10 : w'.cell? ⟨q, 10, none⟩ = some (.int .i64 0) := blk_cell hqc 10
    have f10 := blk_frozen hqc 10
    have c11 : w'.cell? ⟨q, 11, none⟩ = some (.int .i64 0) := blk_cell hqc 11
    have f11 := blk_frozen hqc 11
    have c12 : w'.cell? ⟨q, 12, none⟩ = some (.string ⟨#[]⟩) := blk_cell hqc 12
    have f12 := blk_frozen hqc 12
    have lq := blk_lt hqc
    have HQC := Aside0.mk hqc
    have HQV := Aside0.mk hq
    clear hF hA hL hqc hq
    go_simp
    have a0 := HQC.out
    have a1 := blk_hit (i := 0) (v := .string ⟨#[]⟩) a0
    simp only [List.setIfInBounds_toArray, List.set_cons_zero, List.set_cons_succ] at a1
    have a2 := blk_hit (i := 1) (v := .int .i64 mode) a1
    simp only [List.setIfInBounds_toArray, List.set_cons_zero, List.set_cons_succ] at a2
    have a3 := blk_hit (i := 2) (v := .int .i64 0) a2
    simp only [List.setIfInBounds_toArray, List.set_cons_zero, List.set_cons_succ] at a3
    have a4 := blk_hit (i := 3) (v := .int .i64 0) a3
    simp only [List.setIfInBounds_toArray, List.set_cons_zero, List.set_cons_succ] at a4
    have a5 := blk_hit (i := 4) (v := .int .i64 (data.length : Int)) a4
    simp only [List.setIfInBounds_toArray, List.set_cons_zero, List.set_cons_succ] at a5
    have a6 := blk_hit (i := 5) (v := .int .i64 0) a5
    simp only [List.setIfInBounds_toArray, List.set_cons_zero, List.set_cons_succ] at a6
    have a7 := blk_hit (i := 6) (v := .int .u8 48) a6
    simp only [List.setIfInBounds_toArray, List.set_cons_zero, List.set_cons_succ] at a7
    have a8 := blk_hit (i := 7) (v := .string (mkS [])) a7
    simp only [List.setIfInBounds_toArray, List.set_cons_zero, List.set_cons_succ] at a8
    have a9 := blk_hit (i := 8) (v := .string ⟨#[]⟩) a8
    simp only [List.setIfInBounds_toArray, List.set_cons_zero, List.set_cons_succ] at a9
    have a10 := blk_hit (i := 9) (v := .string ⟨#[]⟩) a9
    simp only [List.setIfInBounds_toArray, List.set_cons_zero, List.set_cons_succ] at a10
    have a11 := blk_hit (i := 10) (v := .int .i64 0) a10
    simp only [List.setIfInBounds_toArray, List.set_cons_zero, List.set_cons_succ] at a11
    have a12 := blk_hit (i := 11) (v := .int .i64 0) a11
    simp only [List.setIfInBounds_toArray, List.set_cons_zero, List.set_cons_succ] at a12
    have a13 := blk_hit (i := 12) (v := .string ⟨#[]⟩) a12
    simp only [List.setIfInBounds_toArray, List.set_cons_zero, List.set_cons_succ] at a13
    exact hK undef _ (hG.next_mk rfl (stX_store (by decide) HQV.out h18 hqb a13) (Below.setCell (Below.setCell (Below.setCell (Below.setCell (Below.setCell (Below.setCell (Below.setCell (Below.setCell (Below.setCell (Below.setCell (Below.setCell (Below.setCell (Below.setCell hG.below hqb _) hqb _) hqb _) hqb _) hqb _) hqb _) hqb _) hqb _) hqb _) hqb _) hqb _) hqb _) hqb _))
  intro vs W1 hB hX
  obtain ⟨q, hq, hqb, hqc⟩ := hX.2 (by kernel_rfl)
  rw [if_pos (by kernel_rfl)] at hqc
  simp only [putL, Act.put, List.setIfInBounds_toArray, List.set_cons_zero, List.set_cons_succ]
  rw [hq]
  have hqp : pm < q := by have := blk_lt HM.out; omega
  have hqe : pe < q := by have := blk_lt HE.out; omega
  have hqr : pr < q := by have := blk_lt HRR.out; omega
  have HQB := Aside0.mk (show w.heap.size ≤ q by have := blk_lt HRR.out; have := HPR.out; omega)
  have E3 := (hB.block pe (blk_lt HE.out)).trans HE.out
  have M3 := (hB.block pm (blk_lt HM.out)).trans HM.out
  have R3 := (hB.block pr (blk_lt HRR.out)).trans HRR.out
  have B3 := below_next BW.out hB
  clear hX hq hB hqb HE HM HRR BW
  clear W
  have c0 : W1.cell? ⟨pe, 0, none⟩ = some (.string (mkS path)) := blk_cell E3 0
  have HE := Aside0.mk E3
  have HM := Aside0.mk M3
  have HRR := Aside0.mk R3
  have HQ := Aside0.mk hqc
  have BW := Aside0.mk B3
  clear E3 M3 R3 hqc B3
  go_wp2_with fail
  refine (HSP.out _).mono ?_
  rintro x W2 ⟨rfl, hb2⟩
  have HE2 := Aside0.mk ((hb2.block pe (blk_lt HE.out)).trans HE.out)
  have HM2 := Aside0.mk ((hb2.block pm (blk_lt HM.out)).trans HM.out)
  have HR2 := Aside0.mk ((hb2.block pr (blk_lt HRR.out)).trans HRR.out)
  have HQ2 := Aside0.mk ((hb2.block q (blk_lt HQ.out)).trans HQ.out)
  have BW2 := Aside0.mk (below_next BW.out hb2)
  clear hb2 c0 HE HM HRR HQ BW HSP
  clear W1
  have q0 : W2.cell? ⟨q, 0, none⟩ = some (.string ⟨#[]⟩) := blk_cell HQ2.out 0
  have qf0 := blk_frozen HQ2.out 0
  have q1 : W2.cell? ⟨q, 1, none⟩ = some (.int .i64 mode) := blk_cell HQ2.out 1
  have qf1 := blk_frozen HQ2.out 1
  have q2 : W2.cell? ⟨q, 2, none⟩ = some (.int .i64 0) := blk_cell HQ2.out 2
  have qf2 := blk_frozen HQ2.out 2
  have q3 : W2.cell? ⟨q, 3, none⟩ = some (.int .i64 0) := blk_cell HQ2.out 3
  have qf3 := blk_frozen HQ2.out 3
  have q4 : W2.cell? ⟨q, 4, none⟩ = some (.int .i64 (data.length : Int)) := blk_cell HQ2.out 4
  have qf4 := blk_frozen HQ2.out 4
  have q5 : W2.cell? ⟨q, 5, none⟩ = some (.int .i64 0) := blk_cell HQ2.out 5
  have qf5 := blk_frozen HQ2.out 5
  have q6 : W2.cell? ⟨q, 6, none⟩ = some (.int .u8 48) := blk_cell HQ2.out 6
  have qf6 := blk_frozen HQ2.out 6
  have q7 : W2.cell? ⟨q, 7, none⟩ = some (.string (mkS [])) := blk_cell HQ2.out 7
  have qf7 := blk_frozen HQ2.out 7
  have q8 : W2.cell? ⟨q, 8, none⟩ = some (.string ⟨#[]⟩) := blk_cell HQ2.out 8
  have qf8 := blk_frozen HQ2.out 8
  have q9 : W2.cell? ⟨q, 9, none⟩ = some (.string ⟨#[]⟩) := blk_cell HQ2.out 9
  have qf9 := blk_frozen HQ2.out 9
  have q10 : W2.cell? ⟨q, 10, none⟩ = some (.int .i64 0) := blk_cell HQ2.out 10
  have qf10 := blk_frozen HQ2.out 10
  have q11 : W2.cell? ⟨q, 11, none⟩ = some (.int .i64 0) := blk_cell HQ2.out 11
  have qf11 := blk_frozen HQ2.out 11
  have q12 : W2.cell? ⟨q, 12, none⟩ = some (.string ⟨#[]⟩) := blk_cell HQ2.out 12
  have qf12 := blk_frozen HQ2.out 12
  have m1 : W2.cell? ⟨pm, 1, none⟩ = some (.int .i64 uid) := blk_cell HM2.out 1
  have m2 : W2.cell? ⟨pm, 2, none⟩ = some (.int .i64 gid) := blk_cell HM2.out 2
  have m3 : W2.cell? ⟨pm, 3, none⟩ = some (.int .i64 sec) := blk_cell HM2.out 3
  have m4 : W2.cell? ⟨pm, 4, none⟩ = some (.int .i64 nano) := blk_cell HM2.out 4
  have r0 : W2.cell? ⟨pr, 0, none⟩ = some (.string ⟨#[]⟩) := blk_cell HR2.out 0
  have rf0 := blk_frozen HR2.out 0
  have r1 : W2.cell? ⟨pr, 1, none⟩ = some (.int .i64 0) := blk_cell HR2.out 1
  have rf1 := blk_frozen HR2.out 1
  have r2 : W2.cell? ⟨pr, 2, none⟩ = some (.int .i64 0) := blk_cell HR2.out 2
  have rf2 := blk_frozen HR2.out 2
  have r3 : W2.cell? ⟨pr, 3, none⟩ = some (.int .i64 0) := blk_cell HR2.out 3
  have rf3 := blk_frozen HR2.out 3
  have r4 : W2.cell? ⟨pr, 4, none⟩ = some (.int .i64 0) := blk_cell HR2.out 4
  have rf4 := blk_frozen HR2.out 4
  have r5 : W2.cell? ⟨pr, 5, none⟩ = some (.int .i64 0) := blk_cell HR2.out 5
  have rf5 := blk_frozen HR2.out 5
  have r6 : W2.cell? ⟨pr, 6, none⟩ = some (.int .u8 0) := blk_cell HR2.out 6
  have rf6 := blk_frozen HR2.out 6
  have r7 : W2.cell? ⟨pr, 7, none⟩ = some (.string ⟨#[]⟩) := blk_cell HR2.out 7
  have rf7 := blk_frozen HR2.out 7
  have r8 : W2.cell? ⟨pr, 8, none⟩ = some (.string ⟨#[]⟩) := blk_cell HR2.out 8
  have rf8 := blk_frozen HR2.out 8
  have r9 : W2.cell? ⟨pr, 9, none⟩ = some (.string ⟨#[]⟩) := blk_cell HR2.out 9
  have rf9 := blk_frozen HR2.out 9
  have r10 : W2.cell? ⟨pr, 10, none⟩ = some (.int .i64 0) := blk_cell HR2.out 10
  have rf10 := blk_frozen HR2.out 10
  have r11 : W2.cell? ⟨pr, 11, none⟩ = some (.int .i64 0) := blk_cell HR2.out 11
  have rf11 := blk_frozen HR2.out 11
  have r12 : W2.cell? ⟨pr, 12, none⟩ = some (.string ⟨#[]⟩) := blk_cell HR2.out 12
  have rf12 := blk_frozen HR2.out 12
  have n1 : pm ≠ q := Nat.ne_of_lt hqp
  have n2 : pr ≠ q := Nat.ne_of_lt hqr
  have n3 : q ≠ pm := Ne.symm n1
  have n4 : q ≠ pr := Ne.symm n2
  have lq := blk_lt HQ2.out
  have lm := blk_lt HM2.out
  have lr := blk_lt HR2.out
  go_wp2_with fail
  have a0 := HQ2.out
  have a1 := blk_hit (i := 12) (v := .string (mkS sa)) a0
  simp only [List.setIfInBounds_toArray, List.set_cons_zero, List.set_cons_succ] at a1
  have a2 := blk_hit (i := 0) (v := .string (mkS sb)) a1
  simp only [List.setIfInBounds_toArray, List.set_cons_zero, List.set_cons_succ] at a2
  have a3 := blk_hit (i := 2) (v := .int .i64 uid) a2
  simp only [List.setIfInBounds_toArray, List.set_cons_zero, List.set_cons_succ] at a3
  have a4 := blk_hit (i := 3) (v := .int .i64 gid) a3
  simp only [List.setIfInBounds_toArray, List.set_cons_zero, List.set_cons_succ] at a4
  have mm := (blk_miss (i := 3) (v := .int .i64 gid) (blk_miss (i := 2) (v := .int .i64 uid) (blk_miss (i := 0) (v := .string (mkS sb)) (blk_miss (i := 12) (v := .string (mkS sa)) HM2.out n1) n1) n1) n1)
  have rr := (blk_miss (i := 3) (v := .int .i64 gid) (blk_miss (i := 2) (v := .int .i64 uid) (blk_miss (i := 0) (v := .string (mkS sb)) (blk_miss (i := 12) (v := .string (mkS sa)) HR2.out n2) n2) n2) n2)
  have bb := (Below.setCell (p := ⟨q, 3, none⟩) (Below.setCell (p := ⟨q, 2, none⟩) (Below.setCell (p := ⟨q, 0, none⟩) (Below.setCell (p := ⟨q, 12, none⟩) BW2.out HQB.out (.string (mkS sa))) HQB.out (.string (mkS sb))) HQB.out (.int .i64 uid)) HQB.out (.int .i64 gid))
  obtain ⟨W3, hW3⟩ : ∃ W, W = ((((W2.setCell ⟨q, 12, none⟩ (.string (mkS sa))).setCell ⟨q, 0, none⟩ (.string (mkS sb))).setCell ⟨q, 2, none⟩ (.int .i64 uid)).setCell ⟨q, 3, none⟩ (.int .i64 gid)) := ⟨_, rfl⟩
  rw [← hW3] at a4 mm rr ⊢
  have bb3 : Below w.heap.size w W3 := by rw [hW3]; exact bb
  clear hW3 bb a0 a1 a2 a3
  have HQ3 := Aside0.mk a4
  have HM3 := Aside0.mk mm
  have HR3 := Aside0.mk rr
  have BW3 := Aside0.mk bb3
  clear a4 mm rr bb3 HQ2 HM2 HR2 BW2 HE2 lq lm lr m1 m2 m3 m4 q0 qf0 r0 rf0 q1 qf1 r1 rf1 q2 qf2 r2 rf2 q3 qf3 r3 rf3 q4 qf4 r4 rf4 q5 qf5 r5 rf5 q6 qf6 r6 rf6 q7 qf7 r7 rf7 q8 qf8 r8 rf8 q9 qf9 r9 rf9 q10 qf10 r10 rf10 q11 qf11 r11 rf11 q12 qf12 r12 rf12
  clear W2
  refine (HLATE.out _).mono ?_
  rintro x W4 ⟨rfl, hb⟩
  have HM4 := Aside0.mk ((hb.block pm (blk_lt HM3.out)).trans HM3.out)
  have HR4 := Aside0.mk ((hb.block pr (blk_lt HR3.out)).trans HR3.out)
  have HQ4 := Aside0.mk ((hb.block q (blk_lt HQ3.out)).trans HQ3.out)
  have BW4 := Aside0.mk (below_next BW3.out hb)
  clear hb HM3 HR3 HQ3 BW3
  clear W3
  have q0 : W4.cell? ⟨q, 0, none⟩ = some (.string (mkS sb)) := blk_cell HQ4.out 0
  have qf0 := blk_frozen HQ4.out 0
  have q1 : W4.cell? ⟨q, 1, none⟩ = some (.int .i64 mode) := blk_cell HQ4.out 1
  have qf1 := blk_frozen HQ4.out 1
  have q2 : W4.cell? ⟨q, 2, none⟩ = some (.int .i64 uid) := blk_cell HQ4.out 2
  have qf2 := blk_frozen HQ4.out 2
  have q3 : W4.cell? ⟨q, 3, none⟩ = some (.int .i64 gid) := blk_cell HQ4.out 3
  have qf3 := blk_frozen HQ4.out 3
  have q4 : W4.cell? ⟨q, 4, none⟩ = some (.int .i64 (data.length : Int)) := blk_cell HQ4.out 4
  have qf4 := blk_frozen HQ4.out 4
  have q5 : W4.cell? ⟨q, 5, none⟩ = some (.int .i64 0) := blk_cell HQ4.out 5
  have qf5 := blk_frozen HQ4.out 5
  have q6 : W4.cell? ⟨q, 6, none⟩ = some (.int .u8 48) := blk_cell HQ4.out 6
  have qf6 := blk_frozen HQ4.out 6
  have q7 : W4.cell? ⟨q, 7, none⟩ = some (.string (mkS [])) := blk_cell HQ4.out 7
  have qf7 := blk_frozen HQ4.out 7
  have q8 : W4.cell? ⟨q, 8, none⟩ = some (.string ⟨#[]⟩) := blk_cell HQ4.out 8
  have qf8 := blk_frozen HQ4.out 8
  have q9 : W4.cell? ⟨q, 9, none⟩ = some (.string ⟨#[]⟩) := blk_cell HQ4.out 9
  have qf9 := blk_frozen HQ4.out 9
  have q10 : W4.cell? ⟨q, 10, none⟩ = some (.int .i64 0) := blk_cell HQ4.out 10
  have qf10 := blk_frozen HQ4.out 10
  have q11 : W4.cell? ⟨q, 11, none⟩ = some (.int .i64 0) := blk_cell HQ4.out 11
  have qf11 := blk_frozen HQ4.out 11
  have q12 : W4.cell? ⟨q, 12, none⟩ = some (.string (mkS sa)) := blk_cell HQ4.out 12
  have qf12 := blk_frozen HQ4.out 12
  have m3 : W4.cell? ⟨pm, 3, none⟩ = some (.int .i64 sec) := blk_cell HM4.out 3
  have r0 : W4.cell? ⟨pr, 0, none⟩ = some (.string ⟨#[]⟩) := blk_cell HR4.out 0
  have rf0 := blk_frozen HR4.out 0
  have r1 : W4.cell? ⟨pr, 1, none⟩ = some (.int .i64 0) := blk_cell HR4.out 1
  have rf1 := blk_frozen HR4.out 1
  have r2 : W4.cell? ⟨pr, 2, none⟩ = some (.int .i64 0) := blk_cell HR4.out 2
  have rf2 := blk_frozen HR4.out 2
  have r3 : W4.cell? ⟨pr, 3, none⟩ = some (.int .i64 0) := blk_cell HR4.out 3
  have rf3 := blk_frozen HR4.out 3
  have r4 : W4.cell? ⟨pr, 4, none⟩ = some (.int .i64 0) := blk_cell HR4.out 4
  have rf4 := blk_frozen HR4.out 4
  have r5 : W4.cell? ⟨pr, 5, none⟩ = some (.int .i64 0) := blk_cell HR4.out 5
  have rf5 := blk_frozen HR4.out 5
  have r6 : W4.cell? ⟨pr, 6, none⟩ = some (.int .u8 0) := blk_cell HR4.out 6
  have rf6 := blk_frozen HR4.out 6
  have r7 : W4.cell? ⟨pr, 7, none⟩ = some (.string ⟨#[]⟩) := blk_cell HR4.out 7
  have rf7 := blk_frozen HR4.out 7
  have r8 : W4.cell? ⟨pr, 8, none⟩ = some (.string ⟨#[]⟩) := blk_cell HR4.out 8
  have rf8 := blk_frozen HR4.out 8
  have r9 : W4.cell? ⟨pr, 9, none⟩ = some (.string ⟨#[]⟩) := blk_cell HR4.out 9
  have rf9 := blk_frozen HR4.out 9
  have r10 : W4.cell? ⟨pr, 10, none⟩ = some (.int .i64 0) := blk_cell HR4.out 10
  have rf10 := blk_frozen HR4.out 10
  have r11 : W4.cell? ⟨pr, 11, none⟩ = some (.int .i64 0) := blk_cell HR4.out 11
  have rf11 := blk_frozen HR4.out 11
  have r12 : W4.cell? ⟨pr, 12, none⟩ = some (.string ⟨#[]⟩) := blk_cell HR4.out 12
  have rf12 := blk_frozen HR4.out 12
  have lq := blk_lt HQ4.out
  have lr := blk_lt HR4.out
  go_wp2_with fail
  have b0 := blk_miss (g' := q) (i := 5) (v := .int .i64 sec) HR4.out n2
  have b1 := blk_hit (i := 0) (v := .string (mkS sb)) b0
  simp only [List.setIfInBounds_toArray, List.set_cons_zero, List.set_cons_succ] at b1
  have b2 := blk_hit (i := 1) (v := .int .i64 mode) b1
  simp only [List.setIfInBounds_toArray, List.set_cons_zero, List.set_cons_succ] at b2
  have b3 := blk_hit (i := 2) (v := .int .i64 uid) b2
  simp only [List.setIfInBounds_toArray, List.set_cons_zero, List.set_cons_succ] at b3
  have b4 := blk_hit (i := 3) (v := .int .i64 gid) b3
  simp only [List.setIfInBounds_toArray, List.set_cons_zero, List.set_cons_succ] at b4
  have b5 := blk_hit (i := 4) (v := .int .i64 (data.length : Int)) b4
  simp only [List.setIfInBounds_toArray, List.set_cons_zero, List.set_cons_succ] at b5
  have b6 := blk_hit (i := 5) (v := .int .i64 sec) b5
  simp only [List.setIfInBounds_toArray, List.set_cons_zero, List.set_cons_succ] at b6
  have b7 := blk_hit (i := 6) (v := .int .u8 48) b6
  simp only [List.setIfInBounds_toArray, List.set_cons_zero, List.set_cons_succ] at b7
  have b8 := blk_hit (i := 7) (v := .string (mkS [])) b7
  simp only [List.setIfInBounds_toArray, List.set_cons_zero, List.set_cons_succ] at b8
  have b9 := blk_hit (i := 8) (v := .string ⟨#[]⟩) b8
  simp only [List.setIfInBounds_toArray, List.set_cons_zero, List.set_cons_succ] at b9
  have b10 := blk_hit (i := 9) (v := .string ⟨#[]⟩) b9
  simp only [List.setIfInBounds_toArray, List.set_cons_zero, List.set_cons_succ] at b10
  have b11 := blk_hit (i := 10) (v := .int .i64 0) b10
  simp only [List.setIfInBounds_toArray, List.set_cons_zero, List.set_cons_succ] at b11
  have b12 := blk_hit (i := 11) (v := .int .i64 0) b11
  simp only [List.setIfInBounds_toArray, List.set_cons_zero, List.set_cons_succ] at b12
  have b13 := blk_hit (i := 12) (v := .string (mkS sa)) b12
  simp only [List.setIfInBounds_toArray, List.set_cons_zero, List.set_cons_succ] at b13
  refine bodyPost_ret (head_res pr _ rfl _ _ rfl b13) rfl ?_
  exact ⟨rfl, (Below.setCell (Below.setCell (Below.setCell (Below.setCell (Below.setCell (Below.setCell (Below.setCell (Below.setCell (Below.setCell (Below.setCell (Below.setCell (Below.setCell (Below.setCell (Below.setCell BW4.out HQB.out _) HPR.out _) HPR.out _) HPR.out _) HPR.out _) HPR.out _) HPR.out _) HPR.out _) HPR.out _) HPR.out _) HPR.out _) HPR.out _) HPR.out _) HPR.out _)⟩
end Go.Proofs.YtbjbnipjeehaoaaGreatDoor
namespace Go.Proofs.YtbjbnipjeehaoaaGreatDoor
open Go.RowKit Go.Proofs.YtbjbnipjeehaoaaGreatDoorW.PrintWords
theorem hput_any (h : H.Hd) (w : World) (hG : Good w) (hf : H.Fits h) :
    Calls Tryz.prog 70 #[.agg (H.hdCells h)] w fun e w' => e = .returned (.string (mkS (H.putT h))) ∧ Below w.heap.size w w' := by
  cases hm : H.mayH h with
  | true => rw [H.put_of ((H.mayH_iff h).1 hm)]; exact H.put_ok h w hG hf hm
  | false => rw [H.put_none hm]; exact H.put_not h w hG hf hm
def putE (e : En) : List UInt8 := H.putT (headE e) ++ padT e.data
set_option maxHeartbeats 4000000 in
set_option maxRecDepth 100000 in
theorem entPut_ok (e : En) (h : EnFile e) (hf : H.Fits (headE e)) (hl : (H.putT (headE e)).length ≤ 1000) (w : World) (hG : Good w) : Calls Tryz.prog 19 #[.agg (enCells e)] w fun x w' => x = .returned (.string (mkS (putE e))) ∧ Below w.heap.size w w' := by
  have HM := Aside0.mk (fun W hGW => entMay_ok e h W hGW)
  have HR := Aside0.mk (fun W hGW => recs_none e W hGW h.fits h.none)
  have HH := Aside0.mk (fun W => head_ok e h W)
  have HPUT := Aside0.mk (fun W hGW => hput_any (headE e) W hGW hf)
  have hdl := h.data
  have HPAD := Aside0.mk (fun W => padPut_any e.data (by omega) W)
  have hpl : (padT e.data).length ≤ 100000 := by rw [padT_length]; unfold roomT; omega
  unfold putE
  generalize H.hdCells (headE e) = HC at *
  generalize H.putT (headE e) = PT at *
  generalize padT e.data = PD at *
  obtain ⟨PO, hPO⟩ : ∃ x, PT ++ PD = x := ⟨_, rfl⟩
  have hpo : PO.length ≤ 200000 := by rw [← hPO, List.length_append]; omega
  have a1 := fun W => H.str_add (P := Tryz.prog) (s := ⟨#[]⟩) (t := mkS PT) (a := []) (b := PT) (c := PT) rfl rfl rfl (by omega) W
  have a2 := fun W => H.str_add (P := Tryz.prog) (s := mkS PT) (t := mkS PD) rfl rfl hPO (by omega) W
  rw [hPO]
  have HG := Aside0.mk hG
  have BW := Aside0.mk (below_alloc (Below.refl w.heap.size w) (.cells (enCells e) 33))
  have HE := Aside0.mk (heap_alloc_new w (.cells (enCells e) 33))
  clear h hG hf hl hdl hpl hpo hPO
  obtain ⟨path, kind, mode, uid, gid, sec, nano, data, target, major, minor⟩ := e
  unfold enCells at *
  simp only at HM HR HH HPAD BW HE
  go_enter Tryz.func19, Tryz.ntmps19
  go_upto_region 1 with (fail)
  obtain ⟨W, hW⟩ : ∃ W, W = w.alloc (.cells #[.string (mkS path), .int .i64 kind, .int .i64 mode, .int .i64 uid, .int .i64 gid, .int .i64 sec, .int .i64 nano, .slice none 0 0, .slice none 0 0, .slice none 0 0, .int .i64 0, .int .u64 0, .int .u64 0, .bool false, .int .i64 0, .int .i64 0, .string (mkS data), .string (mkS target), .int .i64 major, .int .i64 minor] 33) := ⟨_, rfl⟩
  rw [← hW] at BW HE ⊢
  clear hW
  have BE := Aside0.mk (fun (W' : World) (hb : Below W.heap.size W W') => below_next BW.out hb)
  have HGB := Aside0.mk (fun (W' : World) (hb : Below W.heap.size W W') => HG.out.below (BE.out W' hb))
  obtain ⟨pe, hpe⟩ : ∃ pe, w.heap.size = pe := ⟨_, rfl⟩
  rw [hpe] at HE
  rw [show w.heap.size = pe from hpe]
  refine wp_region_still (by kernel_rfl) (fun j => ([some (.agg #[.string (mkS path), .int .i64 kind, .int .i64 mode, .int .i64 uid, .int .i64 gid, .int .i64 sec, .int .i64 nano, .slice none 0 0, .slice none 0 0, .slice none 0 0, .int .i64 0, .int .u64 0, .int .u64 0, .bool false, .int .i64 0, .int .i64 0, .string (mkS data), .string (mkS target), .int .i64 major, .int .i64 minor]), some (.bool true), some (.bool false)] : List (Option Value)).getD j none) (fun _ => false) (by kernel_rfl) (fun _ h => (nomatch h)) (fun _ _ _ => True) KPT (fun _ _ _ => trivial) (fun vs => [(some 5, .agg #[.string (mkS path), .int .i64 kind, .int .i64 mode, .int .i64 uid, .int .i64 gid, .int .i64 sec, .int .i64 nano, .slice none 0 0, .slice none 0 0, .slice none 0 0, .int .i64 0, .int .u64 0, .int .u64 0, .bool false, .int .i64 0, .int .i64 0, .string (mkS data), .string (mkS target), .int .i64 major, .int .i64 minor]), (some 6, .bool true), (some 7, .bool false)]) (fun _ => by kernel_rfl) (AllAt.cons ?_ (AllAt.cons ?_ (AllAt.cons ?_ (AllAt.nil)))) ?_
  · intro _ L vs a' w' hA hF hG K hK
    have e1 : a'.tmps[1]? = some (.pointer (some ⟨pe, 0, none⟩)) := hF.old rfl (by kernel_rfl)
    have hblk := (hG.below.block pe (blk_lt HE.out)).trans HE.out
    clear hF hA
    refine wp_load_row 33 (.tmp 1) rfl pe (by simp [Act.eval, e1]) 33 #[.string (mkS path), .int .i64 kind, .int .i64 mode, .int .i64 uid, .int .i64 gid, .int .i64 sec, .int .i64 nano, .slice none 0 0, .slice none 0 0, .slice none 0 0, .int .i64 0, .int .u64 0, .int .u64 0, .bool false, .int .i64 0, .int .i64 0, .string (mkS data), .string (mkS target), .int .i64 major, .int .i64 minor] _ _ hblk Tryz.underlying33 rfl entry_size ?_
    exact hK _ _ (hG.next_val KPT rfl trivial (Below.refl _ _))
  · intro _ L vs a' w' hA hF hG K hK
    have e5 : a'.tmps[5]? = some (.agg #[.string (mkS path), .int .i64 kind, .int .i64 mode, .int .i64 uid, .int .i64 gid, .int .i64 sec, .int .i64 nano, .slice none 0 0, .slice none 0 0, .slice none 0 0, .int .i64 0, .int .u64 0, .int .u64 0, .bool false, .int .i64 0, .int .i64 0, .string (mkS data), .string (mkS target), .int .i64 major, .int .i64 minor]) := hG.at hF 0 5 (hA ⟨0, .data⟩ (by simp) rfl) rfl rfl
    have HGW := Aside0.mk (HGB.out _ hG.below)
    clear hF hA
    go_simp
    refine (HM.out _ HGW.out).mono ?_
    rintro x w2 ⟨rfl, hb⟩
    exact hK _ _ (hG.next_val KPT rfl trivial hb)
  · intro _ L vs a' w' hA hF hG K hK
    have e6 : a'.tmps[6]? = some (.bool true) := hG.at hF 1 6 (hA ⟨1, .data⟩ (by simp) rfl) rfl rfl
    clear hF hA
    go_simp
    exact hK _ _ (hG.next_val KPT rfl trivial (Below.refl _ _))
  intro vs W_1 hB _
  simp only [putL, Act.put, List.setIfInBounds_toArray, List.set_cons_zero, List.set_cons_succ]
  replace HE := Aside0.mk ((hB.block pe (blk_lt HE.out)).trans HE.out)
  replace BW := Aside0.mk (BE.out _ hB)
  clear hB HGB BE
  clear W
  have BE := Aside0.mk (fun (W' : World) (hb : Below W_1.heap.size W_1 W') => below_next BW.out hb)
  have HGB := Aside0.mk (fun (W' : World) (hb : Below W_1.heap.size W_1 W') => HG.out.below (BE.out W' hb))
  go_upto_region 4 with (fail)
  refine wp_region_still (by kernel_rfl) (fun j => ([some (.agg #[.string (mkS path), .int .i64 kind, .int .i64 mode, .int .i64 uid, .int .i64 gid, .int .i64 sec, .int .i64 nano, .slice none 0 0, .slice none 0 0, .slice none 0 0, .int .i64 0, .int .u64 0, .int .u64 0, .bool false, .int .i64 0, .int .i64 0, .string (mkS data), .string (mkS target), .int .i64 major, .int .i64 minor]), some (.slice none 0 0), some (.string ⟨#[]⟩), some (.string ⟨#[]⟩)] : List (Option Value)).getD j none) (fun _ => false) (by kernel_rfl) (fun _ h => (nomatch h)) (fun _ _ _ => True) KPT (fun _ _ _ => trivial) (fun vs => [(some 8, .agg #[.string (mkS path), .int .i64 kind, .int .i64 mode, .int .i64 uid, .int .i64 gid, .int .i64 sec, .int .i64 nano, .slice none 0 0, .slice none 0 0, .slice none 0 0, .int .i64 0, .int .u64 0, .int .u64 0, .bool false, .int .i64 0, .int .i64 0, .string (mkS data), .string (mkS target), .int .i64 major, .int .i64 minor]), (some 9, .slice none 0 0), (some 10, .string ⟨#[]⟩), (some 4, .string ⟨#[]⟩)]) (fun _ => by kernel_rfl) (AllAt.cons ?_ (AllAt.cons ?_ (AllAt.cons ?_ (AllAt.cons ?_ (AllAt.nil))))) ?_
  · intro _ L vs a' w' hA hF hG K hK
    have e1 : a'.tmps[1]? = some (.pointer (some ⟨pe, 0, none⟩)) := hF.old rfl (by kernel_rfl)
    have hblk := (hG.below.block pe (blk_lt HE.out)).trans HE.out
    clear hF hA
    refine wp_load_row 33 (.tmp 1) rfl pe (by simp [Act.eval, e1]) 33 #[.string (mkS path), .int .i64 kind, .int .i64 mode, .int .i64 uid, .int .i64 gid, .int .i64 sec, .int .i64 nano, .slice none 0 0, .slice none 0 0, .slice none 0 0, .int .i64 0, .int .u64 0, .int .u64 0, .bool false, .int .i64 0, .int .i64 0, .string (mkS data), .string (mkS target), .int .i64 major, .int .i64 minor] _ _ hblk Tryz.underlying33 rfl entry_size ?_
    exact hK _ _ (hG.next_val KPT rfl trivial (Below.refl _ _))
  · intro _ L vs a' w' hA hF hG K hK
    have e8 : a'.tmps[8]? = some (.agg #[.string (mkS path), .int .i64 kind, .int .i64 mode, .int .i64 uid, .int .i64 gid, .int .i64 sec, .int .i64 nano, .slice none 0 0, .slice none 0 0, .slice none 0 0, .int .i64 0, .int .u64 0, .int .u64 0, .bool false, .int .i64 0, .int .i64 0, .string (mkS data), .string (mkS target), .int .i64 major, .int .i64 minor]) := hG.at hF 0 8 (hA ⟨0, .data⟩ (by simp) rfl) rfl rfl
    have HGW := Aside0.mk (HGB.out _ hG.below)
    clear hF hA
    go_simp
    refine (HR.out _ HGW.out).mono ?_
    rintro x w2 ⟨rfl, hb⟩
    exact hK _ _ (hG.next_val KPT rfl trivial hb)
  · intro _ L vs a' w' hA hF hG K hK
    have e9 : a'.tmps[9]? = some (.slice none 0 0) := hG.at hF 1 9 (hA ⟨1, .data⟩ (by simp) rfl) rfl rfl
    have HGW := Aside0.mk (HGB.out _ hG.below)
    clear hF hA
    go_simp
    refine (recJoin_nil _).mono ?_
    rintro x w2 ⟨rfl, hb⟩
    exact hK _ _ (hG.next_val KPT rfl trivial hb)
  · intro _ L vs a' w' hA hF hG K hK
    have e10 : a'.tmps[10]? = some (.string ⟨#[]⟩) := hG.at hF 2 10 (hA ⟨2, .data⟩ (by simp) rfl) rfl rfl
    clear hF hA
    go_simp
    exact hK _ _ (hG.next_val KPT rfl trivial (Below.refl _ _))
  intro vs W_2 hB _
  simp only [putL, Act.put, List.setIfInBounds_toArray, List.set_cons_zero, List.set_cons_succ]
  replace HE := Aside0.mk ((hB.block pe (blk_lt HE.out)).trans HE.out)
  replace BW := Aside0.mk (BE.out _ hB)
  clear hB HGB BE
  clear W_1
  have BE := Aside0.mk (fun (W' : World) (hb : Below W_2.heap.size W_2 W') => below_next BW.out hb)
  have HGB := Aside0.mk (fun (W' : World) (hb : Below W_2.heap.size W_2 W') => HG.out.below (BE.out W' hb))
  go_wp2_with fail
  refine wp_region_skip (by kernel_rfl) (by kernel_rfl) (fun j => ([some (.string ⟨#[]⟩), some (.agg #[.string (mkS path), .int .i64 kind, .int .i64 mode, .int .i64 uid, .int .i64 gid, .int .i64 sec, .int .i64 nano, .slice none 0 0, .slice none 0 0, .slice none 0 0, .int .i64 0, .int .u64 0, .int .u64 0, .bool false, .int .i64 0, .int .i64 0, .string (mkS data), .string (mkS target), .int .i64 major, .int .i64 minor]), some (.agg HC), some (.string (mkS PT)), some (.string (mkS PT)), some (.pointer (some ⟨pe, 16, none⟩)), some (.string (mkS data)), some (.string (mkS PD)), some (.string (mkS PO)), some (.string (mkS PO))] : List (Option Value)).getD j none) (fun _ => false) (by kernel_rfl) (fun _ h => (nomatch h)) (fun _ _ _ => True) KPT (fun _ _ _ => trivial) (fun vs => [(some 20, .string ⟨#[]⟩), (some 21, .agg #[.string (mkS path), .int .i64 kind, .int .i64 mode, .int .i64 uid, .int .i64 gid, .int .i64 sec, .int .i64 nano, .slice none 0 0, .slice none 0 0, .slice none 0 0, .int .i64 0, .int .u64 0, .int .u64 0, .bool false, .int .i64 0, .int .i64 0, .string (mkS data), .string (mkS target), .int .i64 major, .int .i64 minor]), (some 22, .agg HC), (some 23, .string (mkS PT)), (some 24, .string (mkS PT)), (some 25, .pointer (some ⟨pe, 16, none⟩)), (some 26, .string (mkS data)), (some 27, .string (mkS PD)), (some 28, .string (mkS PO)), (some 2, .string (mkS PO))]) (fun _ => by kernel_rfl) (AllAt.cons ?_ (AllAt.cons ?_ (AllAt.cons ?_ (AllAt.cons ?_ (AllAt.cons ?_ (AllAt.cons ?_ (AllAt.cons ?_ (AllAt.cons ?_ (AllAt.cons ?_ (AllAt.cons ?_ (AllAt.nil))))))))))) ?_
  · intro _ L vs a' w' hA hF hG K hK
    have e3 : a'.tmps[3]? = some (.string ⟨#[]⟩) := hF.old rfl (by kernel_rfl)
    clear hF hA
    go_simp
    exact hK _ _ (hG.next_val KPT rfl trivial (Below.refl _ _))
  · intro _ L vs a' w' hA hF hG K hK
    have e1 : a'.tmps[1]? = some (.pointer (some ⟨pe, 0, none⟩)) := hF.old rfl (by kernel_rfl)
    have hblk := (hG.below.block pe (blk_lt HE.out)).trans HE.out
    clear hF hA
    refine wp_load_row 33 (.tmp 1) rfl pe (by simp [Act.eval, e1]) 33 #[.string (mkS path), .int .i64 kind, .int .i64 mode, .int .i64 uid, .int .i64 gid, .int .i64 sec, .int .i64 nano, .slice none 0 0, .slice none 0 0, .slice none 0 0, .int .i64 0, .int .u64 0, .int .u64 0, .bool false, .int .i64 0, .int .i64 0, .string (mkS data), .string (mkS target), .int .i64 major, .int .i64 minor] _ _ hblk Tryz.underlying33 rfl entry_size ?_
    exact hK _ _ (hG.next_val KPT rfl trivial (Below.refl _ _))
  · intro _ L vs a' w' hA hF hG K hK
    have e21 : a'.tmps[21]? = some (.agg #[.string (mkS path), .int .i64 kind, .int .i64 mode, .int .i64 uid, .int .i64 gid, .int .i64 sec, .int .i64 nano, .slice none 0 0, .slice none 0 0, .slice none 0 0, .int .i64 0, .int .u64 0, .int .u64 0, .bool false, .int .i64 0, .int .i64 0, .string (mkS data), .string (mkS target), .int .i64 major, .int .i64 minor]) := hG.at hF 1 21 (hA ⟨1, .data⟩ (by simp) rfl) rfl rfl
    have HGW := Aside0.mk (HGB.out _ hG.below)
    clear hF hA
    go_simp
    refine (HH.out _).mono ?_
    rintro x w2 ⟨rfl, hb⟩
    exact hK _ _ (hG.next_val KPT rfl trivial hb)
  · intro _ L vs a' w' hA hF hG K hK
    have e22 : a'.tmps[22]? = some (.agg HC) := hG.at hF 2 22 (hA ⟨2, .data⟩ (by simp) rfl) rfl rfl
    have HGW := Aside0.mk (HGB.out _ hG.below)
    clear hF hA
    go_simp
    refine (HPUT.out _ HGW.out).mono ?_
    rintro x w2 ⟨rfl, hb⟩
    exact hK _ _ (hG.next_val KPT rfl trivial hb)
  · intro _ L vs a' w' hA hF hG K hK
    have e20 : a'.tmps[20]? = some (.string ⟨#[]⟩) := hG.at hF 0 20 (hA ⟨0, .data⟩ (by simp) rfl) rfl rfl
    have e23 : a'.tmps[23]? = some (.string (mkS PT)) := hG.at hF 3 23 (hA ⟨3, .data⟩ (by simp) rfl) rfl rfl
    clear hF hA
    go_simp
    exact hK _ _ (hG.next_val KPT rfl trivial (Below.refl _ _))
  · intro _ L vs a' w' hA hF hG K hK
    have e1 : a'.tmps[1]? = some (.pointer (some ⟨pe, 0, none⟩)) := hF.old rfl (by kernel_rfl)
    clear hF hA
    go_simp
    exact hK _ _ (hG.next_val KPT rfl trivial (Below.refl _ _))
  · intro _ L vs a' w' hA hF hG K hK
    have e25 : a'.tmps[25]? = some (.pointer (some ⟨pe, 16, none⟩)) := hG.at hF 5 25 (hA ⟨5, .data⟩ (by simp) rfl) rfl rfl
    have hblk := (hG.below.block pe (blk_lt HE.out)).trans HE.out
    have c16 : w'.cell? ⟨pe, 16, none⟩ = some (.string (mkS data)) := blk_cell hblk 16
    have lg := blk_lt hblk
    clear hblk hF hA
    go_simp
    exact hK _ _ (hG.next_val KPT rfl trivial (Below.refl _ _))
  · intro _ L vs a' w' hA hF hG K hK
    have e26 : a'.tmps[26]? = some (.string (mkS data)) := hG.at hF 6 26 (hA ⟨6, .data⟩ (by simp) rfl) rfl rfl
    have HGW := Aside0.mk (HGB.out _ hG.below)
    clear hF hA
    go_simp
    refine (HPAD.out _).mono ?_
    rintro x w2 ⟨rfl, hb⟩
    exact hK _ _ (hG.next_val KPT rfl trivial hb)
  · intro _ L vs a' w' hA hF hG K hK
    have e24 : a'.tmps[24]? = some (.string (mkS PT)) := hG.at hF 4 24 (hA ⟨4, .data⟩ (by simp) rfl) rfl rfl
    have e27 : a'.tmps[27]? = some (.string (mkS PD)) := hG.at hF 7 27 (hA ⟨7, .data⟩ (by simp) rfl) rfl rfl
    clear hF hA
    go_simp
    exact hK _ _ (hG.next_val KPT rfl trivial (Below.refl _ _))
  · intro _ L vs a' w' hA hF hG K hK
    have e28 : a'.tmps[28]? = some (.string (mkS PO)) := hG.at hF 8 28 (hA ⟨8, .data⟩ (by simp) rfl) rfl rfl
    clear hF hA
    go_simp
    exact hK _ _ (hG.next_val KPT rfl trivial (Below.refl _ _))
  intro vs W9 hB _
  simp only [putL, Act.put, List.setIfInBounds_toArray, List.set_cons_zero, List.set_cons_succ]
  go_wp2_with fail
  go_ret
  exact ⟨rfl, BE.out _ hB⟩
end Go.Proofs.YtbjbnipjeehaoaaGreatDoor
namespace Go.Proofs.YtbjbnipjeehaoaaGreatDoor
open Go.RowKit Go.Proofs.YtbjbnipjeehaoaaGreatDoorW.PrintWords
def en0 : En := ⟨[97], 1, 0, 0, 0, 0, 0, [120], [], 0, 0⟩
theorem split_a : H.splitT [97] = ([], [97], true) := by decide
theorem en0_file : EnFile en0 := by
  refine ⟨⟨by decide, by decide, by decide, by decide, by decide, by decide, by decide, by decide, by decide, by decide, by decide⟩, ⟨?_, by decide, by decide, by decide, by decide, by decide⟩, rfl, by decide, by decide, by decide, by decide, rfl, rfl, rfl, by decide⟩
  show (H.splitT [97]).2.2 = true
  rw [split_a]
theorem head0 : headE en0 = ⟨[97], 0, 0, 0, 1, 0, 48, [], [], [], 0, 0, []⟩ := by
  unfold headE en0
  simp only [split_a]
  rfl
theorem head0_may : H.MayH (headE en0) := by
  rw [head0]
  refine ⟨by decide, by decide, by decide, by decide, by decide, ⟨by decide, by decide⟩, ⟨by decide, by decide⟩, ⟨by decide, by decide⟩, ⟨by decide, by decide⟩, ⟨by decide, by decide⟩, ⟨by decide, by decide⟩, by decide⟩
theorem head0_fits : H.Fits (headE en0) := by
  rw [head0]
  exact ⟨by constructor <;> decide, by decide, by decide, by decide, by decide, by decide⟩
theorem put0_length : (putE en0).length = 1024 := by
  unfold putE
  rw [List.length_append, H.put_of head0_may, H.blockT_length head0_may, padT_length]
  rfl
set_option maxHeartbeats 4000000 in
set_option maxRecDepth 100000 in
theorem awake_any (w : World) (hG : Good w) : Calls Tryz.prog 21 #[] w fun x w' => x = .returned (.bool true) ∧ Below w.heap.size w w' := by
  have HPA := Aside0.mk (fun W hGW => show Calls Tryz.prog 22 #[.string ⟨#[97, 47, 46, 46, 47, 98]⟩] W fun e w' => e = .returned (.bool false) ∧ Below W.heap.size W w' from path_any [97, 47, 46, 46, 47, 98] W hGW (by decide))
  have HM := Aside0.mk (fun W hGW => entMay_ok en0 en0_file W hGW)
  have HPUT := Aside0.mk (fun W hGW => entPut_ok en0 en0_file head0_fits (by rw [H.put_of head0_may, H.blockT_length head0_may]; decide) W hGW)
  have hpl := put0_length
  generalize putE en0 = PO at *
  have hpI : (PO.length : Int) = 1024 := by omega
  have HG := Aside0.mk hG
  have BW := Aside0.mk (below_alloc (Below.refl w.heap.size w) (.cells (enCells en0) 33))
  have HE := Aside0.mk (heap_alloc_new w (.cells (enCells en0) 33))
  clear hG
  unfold enCells en0 at *
  simp only at HM HPUT BW HE
  go_enter Tryz.func21, Tryz.ntmps21
  go_upto_region 1 with (fail)
  refine wp_region ?_
  show wpOps _ _ _ [0, 1, 2] _ _
  rw [wpOps_cons]
  refine wpOp_step rfl (fun K hK => ?_)
  rw [if_pos (by rfl)]
  go_simp
  refine hK _ _ ?_
  clear hK K
  rw [wpOps_cons]
  refine wpOp_step rfl (fun K hK => ?_)
  rw [if_pos (by rfl)]
  go_simp
  refine hK _ _ ?_
  clear hK K
  try simp only [Act.put, List.setIfInBounds_toArray, List.set_cons_zero, List.set_cons_succ]
  rw [wpOps_cons]
  refine wpOp_step rfl (fun K hK => ?_)
  rw [if_pos (by rfl)]
  refine wp_store_row 33 (.tmp 1) (.tmp 2) rfl w.heap.size #[.string (mkS [97]), .int .i64 1, .int .i64 0, .int .i64 0, .int .i64 0, .int .i64 0, .int .i64 0, .slice none 0 0, .slice none 0 0, .slice none 0 0, .int .i64 0, .int .u64 0, .int .u64 0, .bool false, .int .i64 0, .int .i64 0, .string (mkS [120]), .string (mkS []), .int .i64 0, .int .i64 0] rfl rfl 33 #[.string ⟨#[]⟩, .int .i64 0, .int .i64 0, .int .i64 0, .int .i64 0, .int .i64 0, .int .i64 0, .slice none 0 0, .slice none 0 0, .slice none 0 0, .int .i64 0, .int .u64 0, .int .u64 0, .bool false, .int .i64 0, .int .i64 0, .string ⟨#[]⟩, .string ⟨#[]⟩, .int .i64 0, .int .i64 0] (heap_alloc_new w _) entry_size rfl (by kernel_rfl) ?_
  refine hK _ _ ?_
  clear hK K
  rw [World.setRow_alloc_new]
  try simp only [wpOps, Act.put]
  go_upto_region 2 with (fail)
  obtain ⟨W, hW⟩ : ∃ W, W = w.alloc (.cells #[.string (mkS [97]), .int .i64 1, .int .i64 0, .int .i64 0, .int .i64 0, .int .i64 0, .int .i64 0, .slice none 0 0, .slice none 0 0, .slice none 0 0, .int .i64 0, .int .u64 0, .int .u64 0, .bool false, .int .i64 0, .int .i64 0, .string (mkS [120]), .string (mkS []), .int .i64 0, .int .i64 0] 33) := ⟨_, rfl⟩
  rw [← hW] at BW HE
  show Code.wp _ _ _ _ (w.alloc (.cells #[.string (mkS [97]), .int .i64 1, .int .i64 0, .int .i64 0, .int .i64 0, .int .i64 0, .int .i64 0, .slice none 0 0, .slice none 0 0, .slice none 0 0, .int .i64 0, .int .u64 0, .int .u64 0, .bool false, .int .i64 0, .int .i64 0, .string (mkS [120]), .string (mkS []), .int .i64 0, .int .i64 0] 33))
  rw [← hW]
  clear hW
  have BE := Aside0.mk (fun (W' : World) (hb : Below W.heap.size W W') => below_next BW.out hb)
  have HGB := Aside0.mk (fun (W' : World) (hb : Below W.heap.size W W') => HG.out.below (BE.out W' hb))
  obtain ⟨pe, hpe⟩ : ∃ pe, w.heap.size = pe := ⟨_, rfl⟩
  rw [hpe] at HE
  rw [show w.heap.size = pe from hpe]
  refine wp_region_still (by kernel_rfl) (fun j => ([some (.bool false), some (.bool true), some (.bool true), some (.agg #[.string (mkS [97]), .int .i64 1, .int .i64 0, .int .i64 0, .int .i64 0, .int .i64 0, .int .i64 0, .slice none 0 0, .slice none 0 0, .slice none 0 0, .int .i64 0, .int .u64 0, .int .u64 0, .bool false, .int .i64 0, .int .i64 0, .string (mkS [120]), .string (mkS []), .int .i64 0, .int .i64 0]), some (.bool true), some (.bool true), some (.bool true), some (.agg #[.string (mkS [97]), .int .i64 1, .int .i64 0, .int .i64 0, .int .i64 0, .int .i64 0, .int .i64 0, .slice none 0 0, .slice none 0 0, .slice none 0 0, .int .i64 0, .int .u64 0, .int .u64 0, .bool false, .int .i64 0, .int .i64 0, .string (mkS [120]), .string (mkS []), .int .i64 0, .int .i64 0]), some (.string (mkS PO)), some (.int .i64 1024), some (.bool true), some (.bool true), some (.bool true)] : List (Option Value)).getD j none) (fun _ => false) (by kernel_rfl) (fun _ h => (nomatch h)) (fun _ _ _ => True) KPT (fun _ _ _ => trivial) (fun vs => [(some 3, .bool false), (some 4, .bool true), (some 5, .bool true), (some 6, .agg #[.string (mkS [97]), .int .i64 1, .int .i64 0, .int .i64 0, .int .i64 0, .int .i64 0, .int .i64 0, .slice none 0 0, .slice none 0 0, .slice none 0 0, .int .i64 0, .int .u64 0, .int .u64 0, .bool false, .int .i64 0, .int .i64 0, .string (mkS [120]), .string (mkS []), .int .i64 0, .int .i64 0]), (some 7, .bool true), (some 8, .bool true), (some 9, .bool true), (some 10, .agg #[.string (mkS [97]), .int .i64 1, .int .i64 0, .int .i64 0, .int .i64 0, .int .i64 0, .int .i64 0, .slice none 0 0, .slice none 0 0, .slice none 0 0, .int .i64 0, .int .u64 0, .int .u64 0, .bool false, .int .i64 0, .int .i64 0, .string (mkS [120]), .string (mkS []), .int .i64 0, .int .i64 0]), (some 11, .string (mkS PO)), (some 12, .int .i64 1024), (some 13, .bool true), (some 14, .bool true), (some 0, .bool true)]) (fun _ => by kernel_rfl) (AllAt.cons ?_ (AllAt.cons ?_ (AllAt.cons ?_ (AllAt.cons ?_ (AllAt.cons ?_ (AllAt.cons ?_ (AllAt.cons ?_ (AllAt.cons ?_ (AllAt.cons ?_ (AllAt.cons ?_ (AllAt.cons ?_ (AllAt.cons ?_ (AllAt.cons ?_ (AllAt.nil)))))))))))))) ?_
  · intro _ L vs a' w' hA hF hG K hK
    have HGW := Aside0.mk (HGB.out _ hG.below)
    clear hF hA
    go_simp
    refine (HPA.out _ HGW.out).mono ?_
    rintro x w2 ⟨rfl, hb⟩
    exact hK _ _ (hG.next_val KPT rfl trivial hb)
  · intro _ L vs a' w' hA hF hG K hK
    have e3 : a'.tmps[3]? = some (.bool false) := hG.at hF 0 3 (hA ⟨0, .data⟩ (by simp) rfl) rfl rfl
    clear hF hA
    go_simp
    exact hK _ _ (hG.next_val KPT rfl trivial (Below.refl _ _))
  · intro _ L vs a' w' hA hF hG K hK
    have e4 : a'.tmps[4]? = some (.bool true) := hG.at hF 1 4 (hA ⟨1, .data⟩ (by simp) rfl) rfl rfl
    clear hF hA
    go_simp
    exact hK _ _ (hG.next_val KPT rfl trivial (Below.refl _ _))
  · intro _ L vs a' w' hA hF hG K hK
    have e1 : a'.tmps[1]? = some (.pointer (some ⟨pe, 0, none⟩)) := hF.old rfl (by kernel_rfl)
    have hblk := (hG.below.block pe (blk_lt HE.out)).trans HE.out
    clear hF hA
    refine wp_load_row 33 (.tmp 1) rfl pe (by simp [Act.eval, e1]) 33 #[.string (mkS [97]), .int .i64 1, .int .i64 0, .int .i64 0, .int .i64 0, .int .i64 0, .int .i64 0, .slice none 0 0, .slice none 0 0, .slice none 0 0, .int .i64 0, .int .u64 0, .int .u64 0, .bool false, .int .i64 0, .int .i64 0, .string (mkS [120]), .string (mkS []), .int .i64 0, .int .i64 0] _ _ hblk Tryz.underlying33 rfl entry_size ?_
    exact hK _ _ (hG.next_val KPT rfl trivial (Below.refl _ _))
  · intro _ L vs a' w' hA hF hG K hK
    have e6 : a'.tmps[6]? = some (.agg #[.string (mkS [97]), .int .i64 1, .int .i64 0, .int .i64 0, .int .i64 0, .int .i64 0, .int .i64 0, .slice none 0 0, .slice none 0 0, .slice none 0 0, .int .i64 0, .int .u64 0, .int .u64 0, .bool false, .int .i64 0, .int .i64 0, .string (mkS [120]), .string (mkS []), .int .i64 0, .int .i64 0]) := hG.at hF 3 6 (hA ⟨3, .data⟩ (by simp) rfl) rfl rfl
    have HGW := Aside0.mk (HGB.out _ hG.below)
    clear hF hA
    go_simp
    refine (HM.out _ HGW.out).mono ?_
    rintro x w2 ⟨rfl, hb⟩
    exact hK _ _ (hG.next_val KPT rfl trivial hb)
  · intro _ L vs a' w' hA hF hG K hK
    have e5 : a'.tmps[5]? = some (.bool true) := hG.at hF 2 5 (hA ⟨2, .data⟩ (by simp) rfl) rfl rfl
    have e7 : a'.tmps[7]? = some (.bool true) := hG.at hF 4 7 (hA ⟨4, .data⟩ (by simp) rfl) rfl rfl
    clear hF hA
    go_simp
    exact hK _ _ (hG.next_val KPT rfl trivial (Below.refl _ _))
  · intro _ L vs a' w' hA hF hG K hK
    have e8 : a'.tmps[8]? = some (.bool true) := hG.at hF 5 8 (hA ⟨5, .data⟩ (by simp) rfl) rfl rfl
    clear hF hA
    go_simp
    exact hK _ _ (hG.next_val KPT rfl trivial (Below.refl _ _))
  · intro _ L vs a' w' hA hF hG K hK
    have e1 : a'.tmps[1]? = some (.pointer (some ⟨pe, 0, none⟩)) := hF.old rfl (by kernel_rfl)
    have hblk := (hG.below.block pe (blk_lt HE.out)).trans HE.out
    clear hF hA
    refine wp_load_row 33 (.tmp 1) rfl pe (by simp [Act.eval, e1]) 33 #[.string (mkS [97]), .int .i64 1, .int .i64 0, .int .i64 0, .int .i64 0, .int .i64 0, .int .i64 0, .slice none 0 0, .slice none 0 0, .slice none 0 0, .int .i64 0, .int .u64 0, .int .u64 0, .bool false, .int .i64 0, .int .i64 0, .string (mkS [120]), .string (mkS []), .int .i64 0, .int .i64 0] _ _ hblk Tryz.underlying33 rfl entry_size ?_
    exact hK _ _ (hG.next_val KPT rfl trivial (Below.refl _ _))
  · intro _ L vs a' w' hA hF hG K hK
    have e10 : a'.tmps[10]? = some (.agg #[.string (mkS [97]), .int .i64 1, .int .i64 0, .int .i64 0, .int .i64 0, .int .i64 0, .int .i64 0, .slice none 0 0, .slice none 0 0, .slice none 0 0, .int .i64 0, .int .u64 0, .int .u64 0, .bool false, .int .i64 0, .int .i64 0, .string (mkS [120]), .string (mkS []), .int .i64 0, .int .i64 0]) := hG.at hF 7 10 (hA ⟨7, .data⟩ (by simp) rfl) rfl rfl
    have HGW := Aside0.mk (HGB.out _ hG.below)
    clear hF hA
    go_simp
    refine (HPUT.out _ HGW.out).mono ?_
    rintro x w2 ⟨rfl, hb⟩
    exact hK _ _ (hG.next_val KPT rfl trivial hb)
  · intro _ L vs a' w' hA hF hG K hK
    have e11 : a'.tmps[11]? = some (.string (mkS PO)) := hG.at hF 8 11 (hA ⟨8, .data⟩ (by simp) rfl) rfl rfl
    clear hF hA
    go_simp
    exact hK _ _ (hG.next_val KPT rfl trivial (Below.refl _ _))
  · intro _ L vs a' w' hA hF hG K hK
    have e12 : a'.tmps[12]? = some (.int .i64 1024) := hG.at hF 9 12 (hA ⟨9, .data⟩ (by simp) rfl) rfl rfl
    clear hF hA
    go_simp
    exact hK _ _ (hG.next_val KPT rfl trivial (Below.refl _ _))
  · intro _ L vs a' w' hA hF hG K hK
    have e9 : a'.tmps[9]? = some (.bool true) := hG.at hF 6 9 (hA ⟨6, .data⟩ (by simp) rfl) rfl rfl
    have e13 : a'.tmps[13]? = some (.bool true) := hG.at hF 10 13 (hA ⟨10, .data⟩ (by simp) rfl) rfl rfl
    clear hF hA
    go_simp
    exact hK _ _ (hG.next_val KPT rfl trivial (Below.refl _ _))
  · intro _ L vs a' w' hA hF hG K hK
    have e14 : a'.tmps[14]? = some (.bool true) := hG.at hF 11 14 (hA ⟨11, .data⟩ (by simp) rfl) rfl rfl
    clear hF hA
    go_simp
    exact hK _ _ (hG.next_val KPT rfl trivial (Below.refl _ _))
  intro vs W9 hB _
  simp only [putL, Act.put, List.setIfInBounds_toArray, List.set_cons_zero, List.set_cons_succ]
  go_wp2_with fail
  go_ret
  exact ⟨rfl, by rw [← hpe]; exact BE.out _ hB⟩
end Go.Proofs.YtbjbnipjeehaoaaGreatDoor
namespace Go.Proofs.YtbjbnipjeehaoaaGreatDoor
open Go.RowKit Go.Proofs.YtbjbnipjeehaoaaGreatDoorW.PrintWords
def lawNames : Array Value := #[.string ⟨#[97]⟩, .string ⟨#[98]⟩, .string ⟨#[100, 105, 114]⟩, .string ⟨#[120, 32, 121]⟩, .string ⟨#[255]⟩, .string ⟨#[108, 111, 110, 103]⟩, .string ⟨#[195, 164]⟩, .string ⟨#[99]⟩]
set_option maxHeartbeats 4000000 in
set_option maxRecDepth 100000 in
theorem lname_any (n : Nat) (hn : n ≤ 255) (w : World) : Calls Tryz.prog 33 #[.int .u8 (n : Int)] w fun x w' => x = .returned (.string (mkS (nameT n))) ∧ Below w.heap.size w w' := by
  obtain ⟨r, hr⟩ : ∃ r, r = nameT n := ⟨_, rfl⟩
  rw [← hr]
  unfold nameT at hr
  obtain ⟨k, hk⟩ : ∃ k, n % 8 = k := ⟨_, rfl⟩
  have hk8 : k < 8 := by omega
  have r1 : Int.tmod (n : Int) 8 = (k : Int) := by rw [Int.tmod_eq_emod_of_nonneg (by omega)]; omega
  have r2 : (n : Int) % 8 = (k : Int) := by omega
  rw [hk] at hr
  clear hk
  have hcases : k = 0 ∨ k = 1 ∨ k = 2 ∨ k = 3 ∨ k = 4 ∨ k = 5 ∨ k = 6 ∨ k = 7 := by omega
  by_cases hg : 200 ≤ n
  · have q1 : (200 : Int) ≤ (n : Int) := by omega
    rw [if_pos hg] at hr
    obtain ⟨z, hz⟩ : ∃ z, n - 190 = z := ⟨_, rfl⟩
    have q2 : IntKind.i64.wrap ((n : Int) - 190) = (z : Int) := by rw [IntKind.wrap_i64]; omega
    have q3 : (n : Int) - 190 = (z : Int) := by omega
    rw [hz] at hr
    have hz2 : z ≤ 65 := by omega
    obtain ⟨b, hb⟩ : ∃ b, baseL k = b := ⟨_, rfl⟩
    rw [hb] at hr
    have HR := Aside0.mk hr
    clear hz hg hk8 hr
    have B0 := Aside0.mk (below_alloc (Below.refl w.heap.size w) (.cells lawNames 9))
    unfold lawNames at B0
    rcases hcases with rfl | rfl | rfl | rfl | rfl | rfl | rfl | rfl
    all_goals
      have hbl : b.length ≤ 4 := by rw [← hb]; decide
      have HBB := Aside0.mk hb
      clear hb
      go_enter Tryz.func33, Tryz.ntmps33
      go_wp2_with fail
      obtain ⟨W0, hW0⟩ : ∃ W, W = w.alloc (.cells lawNames 9) := ⟨_, rfl⟩
      unfold lawNames at hW0
      rw [← hW0] at B0 ⊢
      clear hW0
      go_loopw [4, 5] (fun s v wr => ∃ i : Nat, i ≤ z ∧ s = .string (mkS (b ++ List.replicate i 122)) ∧ v = .int .i64 (i : Int) ∧ wr = W0) (fun _ v _ => z - (intOf v).toNat)
      case atStart => exact ⟨0, Nat.zero_le _, by rw [← HBB.out]; rfl, rfl, rfl⟩
      case round =>
        obtain ⟨i, hi, rfl, rfl, rfl⟩ := hrel
        by_cases hlt : i < z
        · have v1 : (i : Int) < (z : Int) := by omega
          have HS := Aside0.mk (show b ++ List.replicate (i + 1) 122 = (b ++ List.replicate i 122) ++ [122] by rw [List.replicate_succ', List.append_assoc])
          obtain ⟨S, hS⟩ : ∃ S, b ++ List.replicate i 122 = S := ⟨_, rfl⟩
          have hSl : S.length ≤ 100 := by rw [← hS, List.length_append, List.length_replicate]; omega
          have a1 := fun W => H.str_add (P := Tryz.prog) (s := mkS S) (t := ⟨#[122]⟩) (a := S) (b := [122]) rfl rfl rfl (by simp; omega) W
          rw [hS] at HS ⊢
          clear hS
          have w1 : IntKind.i64.wrap ((i : Int) + 1) = (i : Int) + 1 := by rw [IntKind.wrap_i64]; omega
          go_wp2_with fail
          exact ⟨⟨i + 1, by omega, by rw [HS.out], by go_num, trivial⟩, by simp [intOf]; omega⟩
        · obtain rfl : i = z := by omega
          have v1 : ¬ (i : Int) < (i : Int) := by omega
          go_wp2_with fail
          go_ret
          exact ⟨by rw [HR.out]; rfl, B0.out⟩
  · have q1 : ¬ (200 : Int) ≤ (n : Int) := by omega
    rw [if_neg hg, List.replicate_zero, List.append_nil] at hr
    clear hg hk8
    rcases hcases with rfl | rfl | rfl | rfl | rfl | rfl | rfl | rfl
    all_goals
      have HR := Aside0.mk hr
      clear hr
      go_enter Tryz.func33, Tryz.ntmps33
      go_wp2_with fail
      go_ret
      exact ⟨by rw [HR.out]; rfl, below_alloc (Below.refl _ _) _⟩
/-- A row of bytes that is read. -/
def BytesAt (w : World) (A : Option Addr) (len : Nat) (ns : Nat → Nat) : Prop := ∀ i, i < len → ns i ≤ 255 ∧ ∃ x, A = some x ∧ (x.add i).block < w.heap.size ∧ w.cell? (x.add i) = some (.int .u8 (ns i : Int))
theorem BytesAt.below {w w' : World} {A : Option Addr} {len : Nat} {ns : Nat → Nat} (h : BytesAt w A len ns) (hb : Below w.heap.size w w') : BytesAt w' A len ns := fun i hi => by
  obtain ⟨h1, x, h2, h3, h4⟩ := h i hi
  exact ⟨h1, x, h2, Nat.lt_of_lt_of_le h3 hb.size, (hb.cell h3).trans h4⟩
def pathOf (len : Nat) (ns : Nat → Nat) : List UInt8 := pathN ((List.range (min len 8)).map ns)
theorem pathN_len : ∀ l : List Nat, (∀ n ∈ l, n ≤ 255) → (pathN l).length ≤ 1 + 70 * l.length := fun l h => (pathN_walked l.length l rfl h).len
set_option maxHeartbeats 4000000 in
set_option maxRecDepth 100000 in
theorem lpath_any (A : Option Addr) (len cap : Nat) (ns : Nat → Nat) (w : World) (hl : len ≤ 4611686018427387904) (hN : BytesAt w A len ns) : Calls Tryz.prog 11 #[.slice A len cap] w fun x w' => x = .returned (.string (mkS (pathOf len ns))) ∧ Below w.heap.size w w' := by
  have HN := Aside0.mk hN
  clear hN
  obtain ⟨m, hm⟩ : ∃ m, min len 8 = m := ⟨_, rfl⟩
  unfold pathOf
  rw [hm]
  go_enter Tryz.func11, Tryz.ntmps11
  go_wp2_with fail
  go_loopw [3, 4] (fun s v wr => ∃ i : Nat, i ≤ m ∧ s = .string (mkS (pathN ((List.range i).map ns))) ∧ v = .int .i64 (i : Int) ∧ Aside0 (Below w.heap.size w wr)) (fun _ v _ => m - (intOf v).toNat)
  case atStart => exact ⟨0, Nat.zero_le _, rfl, rfl, ⟨Below.refl _ _⟩⟩
  case round =>
    obtain ⟨i, hi, rfl, rfl, HB⟩ := hrel
    by_cases hlt : i < m
    · have v1 : (i : Int) < (len : Int) := by omega
      have v2 : (i : Int) < 8 := by omega
      obtain ⟨h255, x, hA, hxb, hxc⟩ := (HN.out.below HB.out) i (by omega)
      have hln := pathN_len ((List.range i).map ns) (fun n hn => by
        obtain ⟨j, hj, rfl⟩ := List.mem_map.1 hn
        exact (HN.out j (by have := List.mem_range.1 hj; omega)).1)
      rw [List.length_map, List.length_range] at hln
      have HS := Aside0.mk (show pathN ((List.range (i + 1)).map ns) = (pathN ((List.range i).map ns) ++ [47]) ++ nameT (ns i) by
        rw [List.range_succ, List.map_append, List.map_singleton, pathN_snoc, List.append_assoc]; rfl)
      have hnl := (name_named (ns i) h255).len
      have HL := Aside0.mk (fun W => lname_any (ns i) h255 W)
      generalize nameT (ns i) = nm at *
      generalize pathN ((List.range i).map ns) = S at *
      generalize ns i = n at *
      obtain ⟨S1, hS1⟩ : ∃ S1, S ++ [47] = S1 := ⟨_, rfl⟩
      rw [hS1] at HS
      have hs1 : S1.length ≤ 1000 := by rw [← hS1, List.length_append]; simp; omega
      have a1 := fun W => H.str_add (P := Tryz.prog) (s := mkS S) (t := ⟨#[47]⟩) (a := S) (b := [47]) rfl rfl hS1 (by omega) W
      have a2 := fun W => H.str_add (P := Tryz.prog) (s := mkS S1) (t := mkS nm) (a := S1) (b := nm) rfl rfl rfl (by rw [List.length_append]; omega) W
      have w1 : IntKind.i64.wrap ((i : Int) + 1) = (i : Int) + 1 := by rw [IntKind.wrap_i64]; omega
      subst hA
      clear hS1
      go_wp2_with fail
      refine (HL.out _).mono ?_
      rintro e w2 ⟨rfl, hb⟩
      have HB2 := Aside0.mk (below_next HB.out hb)
      clear hb
      go_wp2_with fail
      exact ⟨⟨i + 1, by omega, by rw [HS.out], by go_num, HB2⟩, by simp [intOf]; omega⟩
    · obtain rfl : i = m := by omega
      by_cases h8 : len < 8
      · have v1 : ¬ (i : Int) < (len : Int) := by omega
        go_wp2_with fail
        go_ret
        exact ⟨rfl, HB.out⟩
      · have v2 : ¬ (i : Int) < 8 := by omega
        by_cases hlen : (i : Int) < (len : Int)
        · go_wp2_with fail
          go_ret
          exact ⟨rfl, HB.out⟩
        · go_wp2_with fail
          go_ret
          exact ⟨rfl, HB.out⟩
end Go.Proofs.YtbjbnipjeehaoaaGreatDoor
namespace Go.Proofs.YtbjbnipjeehaoaaGreatDoor
open Go.RowKit Go.Proofs.YtbjbnipjeehaoaaGreatDoorW.PrintWords
def longN (i : Nat) : List UInt8 := List.replicate (2 ^ i) 110
theorem longN_next (i : Nat) : longN i ++ longN i = longN (i + 1) := by
  unfold longN
  rw [List.replicate_append_replicate, Nat.pow_succ, Nat.mul_two]
theorem longN_length (i : Nat) : (longN i).length = 2 ^ i := by unfold longN; simp
set_option maxHeartbeats 8000000 in
set_option maxRecDepth 100000 in
theorem entryPaths_main (A : Option Addr) (len cap : Nat) (ns : Nat → Nat) (which deep : Nat) (w : World) (hG : Good w) (hl : len ≤ 4611686018427387904) (hN : BytesAt w A len ns) (hw : which ≤ 255) (hd : deep ≤ 255) :
    Calls Tryz.prog 4 #[.slice A len cap, .int .u8 (which : Int), .int .u8 (deep : Int)] w fun x w' => x = .returned (.bool true) ∧ Below w.heap.size w w' := by
  have HLP := Aside0.mk (lpath_any A len cap ns w hl hN)
  have hwk : Walked (pathOf len ns) (min len 8) := by
    have := pathN_walked (min len 8) ((List.range (min len 8)).map ns) (by simp) (fun n hn => by
      obtain ⟨j, hj, rfl⟩ := List.mem_map.1 hn
      exact (hN j (by have := List.mem_range.1 hj; omega)).1)
    exact this
  have hk8 : min len 8 ≤ 8 := Nat.min_le_right _ _
  generalize min len 8 = km at *
  generalize pathOf len ns = S at *
  have HWK := Aside0.mk hwk
  have hSl : S.length ≤ 600 := by have := hwk.len; omega
  have HG := Aside0.mk hG
  clear hG hN hwk hl
  go_enter Tryz.func4, Tryz.ntmps4
  go_wp2_with fail
  refine HLP.out.mono ?_
  rintro x W ⟨rfl, hb⟩
  have B1 := Aside0.mk hb
  clear hb HLP
  go_wp2_with fail
  go_loopw [8, 9] (fun s v wr => ∃ i : Nat, i ≤ 8 ∧ s = .string (mkS (longN i)) ∧ v = .int .i64 (i : Int) ∧ wr = W) (fun _ v _ => 8 - (intOf v).toNat)
  case atStart => exact ⟨0, by omega, rfl, rfl, rfl⟩
  case round =>
    obtain ⟨i, hi, rfl, rfl, rfl⟩ := hrel
    by_cases hlt : i < 8
    · have v1 : (i : Int) < 8 := by omega
      have hln : (longN i).length ≤ 256 := by
        rw [longN_length]
        have : 2 ^ i ≤ 2 ^ 8 := Nat.pow_le_pow_right (by decide) (by omega)
        omega
      have HNX := Aside0.mk (longN_next i)
      generalize longN i = L at *
      have a1 := fun W => H.str_add (P := Tryz.prog) (s := mkS L) (t := mkS L) (a := L) (b := L) rfl rfl rfl (by rw [List.length_append]; omega) W
      have w1 : IntKind.i64.wrap ((i : Int) + 1) = (i : Int) + 1 := by rw [IntKind.wrap_i64]; omega
      go_wp2_with fail
      exact ⟨⟨i + 1, by omega, by rw [← HNX.out], by go_num, trivial⟩, by simp [intOf]; omega⟩
    · obtain rfl : i = 8 := by omega
      have hln : (longN 8).length = 256 := longN_length 8
      obtain ⟨L, hLL⟩ : ∃ L, longN 8 = L := ⟨_, rfl⟩
      rw [hLL] at hln ⊢
      have h47 : ∀ c ∈ L, c ≠ 47 := by rw [← hLL]; unfold longN; intro c hc; rw [List.eq_of_mem_replicate hc]; decide
      have HBAD := Aside0.mk (bad_all S L h47 (by omega))
      have f1 := fun W => H.str_add (P := Tryz.prog) (s := ⟨#[47]⟩) (t := mkS S) (a := [47]) (b := S) (c := badT S L 1) rfl rfl rfl (by simp [badT]; omega) W
      have f2 := fun W => H.str_add (P := Tryz.prog) (s := mkS S) (t := ⟨#[47]⟩) (a := S) (b := [47]) (c := badT S L 2) rfl rfl rfl (by simp [badT]; omega) W
      have f3 := fun W => H.str_add (P := Tryz.prog) (s := mkS S) (t := ⟨#[47, 47, 97]⟩) (a := S) (b := [47, 47, 97]) (c := badT S L 3) rfl rfl rfl (by simp [badT]; omega) W
      have f4 := fun W => H.str_add (P := Tryz.prog) (s := mkS S) (t := ⟨#[47, 46]⟩) (a := S) (b := [47, 46]) (c := badT S L 4) rfl rfl rfl (by simp [badT]; omega) W
      have f5 := fun W => H.str_add (P := Tryz.prog) (s := ⟨#[46, 46, 47]⟩) (t := mkS S) (a := [46, 46, 47]) (b := S) (c := badT S L 5) rfl rfl rfl (by simp [badT]; omega) W
      have f6 := fun W => H.str_add (P := Tryz.prog) (s := mkS S) (t := ⟨#[47, 46, 46, 47, 98]⟩) (a := S) (b := [47, 46, 46, 47, 98]) (c := badT S L 6) rfl rfl rfl (by simp [badT]; omega) W
      have f7 := fun W => H.str_add (P := Tryz.prog) (s := mkS S) (t := ⟨#[0]⟩) (a := S) (b := [0]) (c := badT S L 7) rfl rfl rfl (by simp [badT]; omega) W
      have f9 := fun W => H.str_add (P := Tryz.prog) (s := ⟨#[46, 47]⟩) (t := mkS S) (a := [46, 47]) (b := S) (c := badT S L 9) rfl rfl rfl (by simp [badT]; omega) W
      have f8 := fun W => H.str_add (P := Tryz.prog) (s := mkS (badT S L 2)) (t := mkS L) (a := badT S L 2) (b := L) (c := badT S L 8) rfl rfl rfl (by simp [badT]; omega) W
      obtain ⟨b1, hb1⟩ : ∃ b, badT S L 1 = b := ⟨_, rfl⟩
      rw [hb1] at f1
      obtain ⟨b2, hb2⟩ : ∃ b, badT S L 2 = b := ⟨_, rfl⟩
      rw [hb2] at f2
      obtain ⟨b3, hb3⟩ : ∃ b, badT S L 3 = b := ⟨_, rfl⟩
      rw [hb3] at f3
      obtain ⟨b4, hb4⟩ : ∃ b, badT S L 4 = b := ⟨_, rfl⟩
      rw [hb4] at f4
      obtain ⟨b5, hb5⟩ : ∃ b, badT S L 5 = b := ⟨_, rfl⟩
      rw [hb5] at f5
      obtain ⟨b6, hb6⟩ : ∃ b, badT S L 6 = b := ⟨_, rfl⟩
      rw [hb6] at f6
      obtain ⟨b7, hb7⟩ : ∃ b, badT S L 7 = b := ⟨_, rfl⟩
      rw [hb7] at f7
      obtain ⟨b8, hb8⟩ : ∃ b, badT S L 8 = b := ⟨_, rfl⟩
      rw [hb8] at f8
      obtain ⟨b9, hb9⟩ : ∃ b, badT S L 9 = b := ⟨_, rfl⟩
      rw [hb9] at f9
      rw [hb2] at f8
      go_wp2_with fail
      have HQ := Aside0.mk (heap_alloc_new wr (.cells #[.string ⟨#[]⟩, .string (mkS b1), .string (mkS b2), .string (mkS b3), .string (mkS b4), .string (mkS b5), .string (mkS b6), .string (mkS b7), .string (mkS b8), .string (mkS b9)] 9))
      have B2 := Aside0.mk (below_alloc B1.out (.cells #[.string ⟨#[]⟩, .string (mkS b1), .string (mkS b2), .string (mkS b3), .string (mkS b4), .string (mkS b5), .string (mkS b6), .string (mkS b7), .string (mkS b8), .string (mkS b9)] 9))
      obtain ⟨V, hV⟩ : ∃ V, V = wr.alloc (.cells #[.string ⟨#[]⟩, .string (mkS b1), .string (mkS b2), .string (mkS b3), .string (mkS b4), .string (mkS b5), .string (mkS b6), .string (mkS b7), .string (mkS b8), .string (mkS b9)] 9) := ⟨_, rfl⟩
      rw [← hV] at HQ B2 ⊢
      clear hV
      generalize wr.heap.size = q at HQ ⊢
      obtain ⟨k, hk⟩ : ∃ k, which % 10 = k := ⟨_, rfl⟩
      have hk10 : k < 10 := by omega
      have HCELL := Aside0.mk (show V.cell? ⟨q, k, none⟩ = some (.string (mkS (badT S L k))) from by
        have hc : k = 0 ∨ k = 1 ∨ k = 2 ∨ k = 3 ∨ k = 4 ∨ k = 5 ∨ k = 6 ∨ k = 7 ∨ k = 8 ∨ k = 9 := by omega
        rcases hc with rfl | rfl | rfl | rfl | rfl | rfl | rfl | rfl | rfl | rfl
        · exact blk_cell HQ.out 0
        · rw [hb1]; exact blk_cell HQ.out 1
        · rw [hb2]; exact blk_cell HQ.out 2
        · rw [hb3]; exact blk_cell HQ.out 3
        · rw [hb4]; exact blk_cell HQ.out 4
        · rw [hb5]; exact blk_cell HQ.out 5
        · rw [hb6]; exact blk_cell HQ.out 6
        · rw [hb7]; exact blk_cell HQ.out 7
        · rw [hb8]; exact blk_cell HQ.out 8
        · rw [hb9]; exact blk_cell HQ.out 9)
      obtain ⟨bad, hbad⟩ : ∃ b, badT S L k = b := ⟨_, rfl⟩
      have HBK := Aside0.mk (HBAD.out k hk10)
      have hbl : bad.length ≤ 2000 := by
        rw [← hbad]
        have hc : k = 0 ∨ k = 1 ∨ k = 2 ∨ k = 3 ∨ k = 4 ∨ k = 5 ∨ k = 6 ∨ k = 7 ∨ k = 8 ∨ k = 9 := by omega
        rcases hc with rfl | rfl | rfl | rfl | rfl | rfl | rfl | rfl | rfl | rfl <;> simp [badT] <;> omega
      rw [hbad] at HCELL HBK
      clear f1 f2 f3 f4 f5 f6 f7 f8 f9 hb1 hb2 hb3 hb4 hb5 hb6 hb7 hb8 hb9 hbad HBAD
      obtain ⟨d, hd9⟩ : ∃ d, deep % 9 = d := ⟨_, rfl⟩
      have d1 : Int.tmod (deep : Int) 9 = (d : Int) := by rw [Int.tmod_eq_emod_of_nonneg (by omega)]; omega
      have d2 : (deep : Int) % 9 = (d : Int) := by omega
      have hd8 : d < 9 := by omega
      have d3 : IntKind.i64.wrap (60 + (d : Int)) = 60 + d := by rw [IntKind.wrap_i64]; omega
      clear hd9
      go_loopw [11, 12] (fun s v wq => ∃ j : Nat, j + 1 ≤ 60 + d ∧ s = .string (mkS (manyP j)) ∧ v = .int .i64 ((j + 1 : Nat) : Int) ∧ wq = V) (fun _ v _ => 100 - (intOf v).toNat)
      case atStart => exact ⟨0, by omega, rfl, rfl, rfl⟩
      case round =>
        obtain ⟨j, hj, rfl, rfl, rfl⟩ := hrel
        by_cases hlt2 : j + 1 < 60 + d
        · have v1 : ((j + 1 : Nat) : Int) < 60 + (d : Int) := by omega
          have hml := many_length j
          have HMM := Aside0.mk (show manyP (j + 1) = manyP j ++ [47, 97] from rfl)
          generalize manyP j = mp at *
          have a1 := fun W => H.str_add (P := Tryz.prog) (s := mkS mp) (t := ⟨#[47, 97]⟩) (a := mp) (b := [47, 97]) rfl rfl rfl (by rw [List.length_append]; simp; omega) W
          have w1 : IntKind.i64.wrap (((j + 1 : Nat) : Int) + 1) = ((j + 1 + 1 : Nat) : Int) := by rw [IntKind.wrap_i64]; omega
          go_wp2_with fail
          exact ⟨⟨j + 1, by omega, by rw [HMM.out], by first | rfl | go_num, trivial⟩, by simp [intOf]; omega⟩
        · have hj2 : j + 1 = 60 + d := by omega
          have v1 : ¬ ((j + 1 : Nat) : Int) < 60 + (d : Int) := by omega
          have r1 : Int.tmod (which : Int) 10 = (k : Int) := by rw [Int.tmod_eq_emod_of_nonneg (by omega)]; omega
          have r2 : (which : Int) % 10 = (k : Int) := by omega
          have r3 : (k : Int) < 10 := by omega
          have hml := many_length j
          have hmp := many_path j (by omega)
          have p1 := HWK.out.path (by omega)
          have p3 := HWK.out.more (by omega) (x := [46, 46, 46]) ⟨by decide, by decide, by decide, by decide⟩
          have hL5 : (L.take 255).length = 255 := by rw [List.length_take]; omega
          have hLm : ∀ c ∈ L.take 255, c = 110 := by
            intro c hc
            have := List.mem_of_mem_take hc
            rw [← hLL] at this
            exact List.eq_of_mem_replicate this
          have p4 := HWK.out.more (by omega) (x := L.take 255) ⟨by
              unfold nameOk
              have e1 : L.take 255 ≠ [] := fun e => by rw [e] at hL5; simp at hL5
              have e2 : L.take 255 ≠ [46] := fun e => by rw [e] at hL5; simp at hL5
              have e3 : L.take 255 ≠ [46, 46] := fun e => by rw [e] at hL5; simp at hL5
              rw [decide_eq_true (show (L.take 255).length ≤ 255 by omega)]
              simp only [bne_iff_ne, ne_eq, Bool.and_eq_true, Bool.and_true]
              exact ⟨⟨e1, e2⟩, e3⟩, fun c hc => by rw [hLm c hc]; decide, fun c hc => by rw [hLm c hc]; decide, by omega⟩
          have x255 : (mkS L).extract 0 255 = mkS (L.take 255) := by rw [extract_mkS, List.drop_zero]
          have hLI : (L.length : Int) = 256 := by omega
          generalize L.take 255 = L5 at *
          generalize manyP j = mp at *
          obtain ⟨T1, hT1⟩ : ∃ T, S ++ [47, 46, 46, 46] = T := ⟨_, rfl⟩
          obtain ⟨T0, hT0⟩ : ∃ T, S ++ [47] = T := ⟨_, rfl⟩
          obtain ⟨T2, hT2⟩ : ∃ T, T0 ++ L5 = T := ⟨_, rfl⟩
          have hT2' : S ++ 47 :: L5 = T2 := by rw [← hT2, ← hT0, List.append_assoc]; rfl
          rw [show S ++ 47 :: [46, 46, 46] = T1 from hT1] at p3
          rw [hT2'] at p4
          have g1 := fun W => H.str_add (P := Tryz.prog) (s := mkS S) (t := ⟨#[47, 46, 46, 46]⟩) (a := S) (b := [47, 46, 46, 46]) rfl rfl hT1 (by rw [← hT1, List.length_append]; simp; omega) W
          have g2 := fun W => H.str_add (P := Tryz.prog) (s := mkS S) (t := ⟨#[47]⟩) (a := S) (b := [47]) rfl rfl hT0 (by rw [← hT0, List.length_append]; simp; omega) W
          have g3 := fun W => H.str_add (P := Tryz.prog) (s := mkS T0) (t := mkS L5) (a := T0) (b := L5) rfl rfl hT2 (by rw [← hT2', List.length_append, List.length_cons]; omega) W
          have hpa := fun (t : List UInt8) (b : Bool) (ht : t.length < 1000000) (hb : pathOk t = b) => Aside0.mk (fun W hGW => show Calls Tryz.prog 22 #[.string (mkS t)] W fun e w' => e = .returned (.bool b) ∧ Below W.heap.size W w' from by
            have := path_any t W hGW ht
            rw [hb] at this
            exact this)
          have P1 := hpa S true (by omega) p1
          have P2 := hpa bad false (by omega) HBK.out
          have P3 := hpa T1 true (by rw [← hT1, List.length_append]; simp; omega) p3
          have P4 := hpa T2 true (by rw [← hT2', List.length_append, List.length_cons]; omega) p4
          have P5 := hpa mp _ (by omega) hmp
          have HAW := Aside0.mk (fun W hGW => awake_any W hGW)
          have hd4 : decide (j + 1 ≤ 64) = decide (60 + (d : Int) ≤ 64) := decide_eq_decide.2 (by omega)
          rw [hd4] at P5
          have hcs : 60 + (d : Int) ≤ 64 ∨ ¬ 60 + (d : Int) ≤ 64 := by omega
          clear hpa p1 p3 p4 hmp hT1 hT0 hT2 hT2' HWK hd4 HBK hLL
          rcases hcs with hcs | hcs
          all_goals
            first | rw [decide_eq_true hcs] at P5 | rw [decide_eq_false hcs] at P5
            go_wp2_with fail
            refine (P1.out _ (HG.out.below B2.out)).mono ?_
            rintro x W1 ⟨rfl, hb1⟩
            have C1 : W1.cell? ⟨q, k, none⟩ = some (.string (mkS bad)) := (hb1.cell (p := ⟨q, k, none⟩) (blk_lt HQ.out)).trans HCELL.out
            have lc := Nat.lt_of_lt_of_le (blk_lt HQ.out) hb1.size
            have B3 := Aside0.mk (below_next B2.out hb1)
            clear hb1
            go_wp2_with fail
            refine (P2.out _ (HG.out.below B3.out)).mono ?_
            rintro x W2 ⟨rfl, hb2⟩
            have B4 := Aside0.mk (below_next B3.out hb2)
            clear hb2 C1 lc
            go_wp2_with fail
            refine (P3.out _ (HG.out.below B4.out)).mono ?_
            rintro x W3 ⟨rfl, hb3⟩
            have B5 := Aside0.mk (below_next B4.out hb3)
            clear hb3
            go_wp2_with fail
            refine (P4.out _ (HG.out.below B5.out)).mono ?_
            rintro x W4 ⟨rfl, hb4⟩
            have B6 := Aside0.mk (below_next B5.out hb4)
            clear hb4
            go_wp2_with fail
            refine (P5.out _ (HG.out.below B6.out)).mono ?_
            rintro x W5 ⟨rfl, hb5⟩
            have B7 := Aside0.mk (below_next B6.out hb5)
            clear hb5
            go_wp2_with fail
            refine (HAW.out _ (HG.out.below B7.out)).mono ?_
            rintro x W6 ⟨rfl, hb6⟩
            have B8 := Aside0.mk (below_next B7.out hb6)
            clear hb6
            go_wp2_with fail
            go_ret
            exact ⟨by first | rfl | (simp [hcs]), B8.out⟩
theorem bytes_of_row {w : World} {a : Option Addr} {len cap : Nat} {zs : List Int}
    (h : (a = none ∧ len = 0 ∧ cap = 0 ∧ zs = []) ∨ ∃ x, a = some x ∧ len ≤ cap ∧ cap ≤ maxLen ∧ zs.length = cap ∧ (∀ i, i < zs.length → w.cell? (x.add i) = some (.int .u8 (zs.getD i 0))) ∧ ∀ n ∈ zs, (Lit.int .u8 n).wf = true) : BytesAt w a len (fun i => (zs.getD i 0).toNat) := by
  intro i hi
  rcases h with ⟨_, rfl, _, _⟩ | ⟨x, rfl, h1, h2, h3, h4, h5⟩
  · omega
  · have hc := h4 i (by omega)
    have hm : zs.getD i 0 ∈ zs := by
      rw [List.getD_eq_getElem?_getD, List.getElem?_eq_getElem (by omega)]
      exact List.getElem_mem _
    have hb := World.block_lt_of_cell? w _ hc
    have hr := wf_u8 (h5 _ hm)
    have e : ((zs.getD i 0).toNat : Int) = zs.getD i 0 := by omega
    refine ⟨by show (zs.getD i 0).toNat ≤ 255; omega, x, rfl, hb, ?_⟩
    rw [hc, e]
theorem entryPaths_walk (A : Option Addr) (len cap : Nat) (zs : List Int) (which deep : Int) (w : World) (hG : Good w)
    (hz : (A = none ∧ len = 0 ∧ cap = 0 ∧ zs = []) ∨ ∃ x, A = some x ∧ len ≤ cap ∧ cap ≤ maxLen ∧ zs.length = cap ∧ (∀ i, i < zs.length → w.cell? (x.add i) = some (.int .u8 (zs.getD i 0))) ∧ ∀ n ∈ zs, (Lit.int .u8 n).wf = true)
    (hy : len * 1 ≤ 140737488351232) (hw : 0 ≤ which ∧ which ≤ 255) (hd : 0 ≤ deep ∧ deep ≤ 255) :
    Calls Tryz.prog 4 #[.slice A len cap, .int .u8 which, .int .u8 deep] w fun x w' => x = .returned (.bool true) ∧ Below w.heap.size w w' := by
  obtain ⟨m, rfl⟩ : ∃ n : Nat, (n : Int) = which := ⟨which.toNat, by omega⟩
  obtain ⟨n, rfl⟩ : ∃ n : Nat, (n : Int) = deep := ⟨deep.toNat, by omega⟩
  exact entryPaths_main A len cap _ m n w hG (by omega) (bytes_of_row hz) (by omega) (by omega)
end Go.Proofs.YtbjbnipjeehaoaaGreatDoor
namespace Go.Proofs.YtbjbnipjeehaoaaGreatDoor
open Go.RowKit Go.Sort
theorem one_laid {W : World} {l : List (String × DataW Unit)} {x : String × DataW Unit} (nm : String) (h : laidMetH Tryz.prog l W) (e : ((l.filter fun x => x.2.handleName?.isNone).filter fun y => y.1 == nm) = [x]) : laidMet Tryz.prog [x] W := by
  have := (laidMetH_iff.1 h).1.filter (fun y => y.1 == nm)
  rw [e] at this
  exact this
def tab64 : List Int := [0, 1, 56, 2, 57, 49, 28, 3, 61, 58, 42, 50, 38, 29, 17, 4, 62, 47, 59, 36, 45, 43, 51, 22, 53, 39, 33, 30, 24, 18, 12, 5, 63, 55, 48, 27, 60, 41, 37, 16, 46, 35, 44, 21, 52, 32, 23, 11, 54, 26, 40, 15, 34, 20, 31, 10, 25, 14, 19, 9, 13, 8, 7, 6]
theorem gTab : Tryz.prog.globalNamed "math/bits.deBruijn64tab" = some 7 := by kernel_rfl
theorem good_start {W : World} (hs : W.ShapedOpen Tryz.prog) (h : laidMetH Tryz.prog Rows.entryPathsRow.laid W) : Good W := by
  refine ⟨hs, ?_, ?_⟩
  · exact Lib.tabIs_of_head (t := 269) (e := 27) (n := 20) gPow (by kernel_rfl) (by kernel_rfl) (by kernel_rfl) (by kernel_rfl) (by kernel_rfl) (one_laid (x := ("internal/strconv.uint64pow10", Lib.tabData .u64 Lib.pow10Tab)) "internal/strconv.uint64pow10" h (by kernel_rfl))
  · have ht : Lib.TabIs Tryz.prog W "math/bits.deBruijn64tab" .u8 tab64 := Lib.tabIs_of_head (t := 303) (e := 5) (n := 64) gTab (by kernel_rfl) (by kernel_rfl) (by kernel_rfl) (by kernel_rfl) (by kernel_rfl) (one_laid (x := ("math/bits.deBruijn64tab", Lib.tabData .u8 tab64)) "math/bits.deBruijn64tab" h (by kernel_rfl))
    exact ht.cell gTab 7 (by decide)
end Go.Proofs.YtbjbnipjeehaoaaGreatDoor
