/- stamp.Cmp. -/
import Derived.Test.YtfdfpgkfhcmlcaaDoorStampAwake
set_option linter.unusedVariables false
set_option linter.unusedSimpArgs false
namespace Go.Proofs.YtfdfpgkfhcmlcaaDoor
open Go.RowKit Go.Proofs.YtfdfpgkfhcmlcaaDoorW.PrintWords

def orC (a b : Int) : Int := if a = 0 then b else a
def cmpT (s n s' n' : Int) : Int := orC (Lib.compareInt s s') (Lib.compareInt n n')
theorem or_any (g c : Nat) (a b : Int) (w : World) (h0 : w.cell? ⟨g, 0, none⟩ = some (.int .i64 a)) (h1 : w.cell? ⟨g, 1, none⟩ = some (.int .i64 b)) :
    Calls Tryd.prog 31 #[.slice (some ⟨g, 0, none⟩) 2 c] w fun e w' => e = .returned (.int .i64 (orC a b)) ∧ w' = w := by
  by_cases ha : a = 0
  · by_cases hb : b = 0
    · subst ha hb
      go_enter Tryd.func31, Tryd.ntmps31
      go_wp2_with fail
      go_loopw [8] (fun v wr => wr = w ∧ (v = .int .i64 0 ∨ v = .int .i64 1 ∨ v = .int .i64 2)) (fun v _ => 2 - (intOf v).toNat)
      case atStart => exact ⟨rfl, .inl rfl⟩
      case round =>
        obtain ⟨rfl, rfl | rfl | rfl⟩ := hrel
        · go_wp2_with fail
          go_roundw
          case measure => simp [intOf]
          case rel => exact ⟨by first | rfl | trivial, .inr (.inl rfl)⟩
        · go_wp2_with fail
          go_roundw
          case measure => simp [intOf]
          case rel => exact ⟨by first | rfl | trivial, .inr (.inr rfl)⟩
        · go_wp2_with fail
          go_ret
          exact ⟨rfl, rfl⟩
    · subst ha
      go_enter Tryd.func31, Tryd.ntmps31
      go_wp2_with fail
      go_loopw [8] (fun v wr => wr = w ∧ (v = .int .i64 0 ∨ v = .int .i64 1)) (fun v _ => 2 - (intOf v).toNat)
      case atStart => exact ⟨rfl, .inl rfl⟩
      case round =>
        have hb' : (b == 0) = false := by simpa using hb
        obtain ⟨rfl, rfl | rfl⟩ := hrel
        · go_wp2_with fail
          go_roundw
          case measure => simp [intOf]
          case rel => exact ⟨by first | rfl | trivial, .inr rfl⟩
        · go_wp2_with fail
          go_ret
          exact ⟨rfl, rfl⟩
  · have ha' : (a == 0) = false := by simpa using ha
    have HO := Aside0.mk (show orC a b = a from if_neg ha)
    go_enter Tryd.func31, Tryd.ntmps31
    go_wp2_with fail
    go_loopw [8] (fun v wr => wr = w ∧ v = .int .i64 0) (fun v _ => 2 - (intOf v).toNat)
    case atStart => exact ⟨rfl, rfl⟩
    case round =>
      obtain ⟨rfl, rfl⟩ := hrel
      go_wp2_with fail
      go_ret
      exact ⟨by rw [HO.out]; rfl, rfl⟩
set_option maxHeartbeats 1000000 in
set_option maxRecDepth 100000 in
theorem cmp_any (s n s' n' : Int) (w : World) :
    Calls Tryd.prog 17 #[.agg #[.int .i64 s, .int .i64 n], .agg #[.int .i64 s', .int .i64 n']] w fun e w' => e = .returned (.int .i64 (cmpT s n s' n')) ∧ Below w.heap.size w w' := by
  have HB0 := Aside0.mk (below_alloc (below_alloc (Below.refl w.heap.size w) (.cells #[.int .i64 s, .int .i64 n] 24)) (.cells #[.int .i64 s', .int .i64 n'] 24))
  have g0 := blk_alloc (heap_alloc_new w (.cells #[.int .i64 s, .int .i64 n] 24)) (.cells #[.int .i64 s', .int .i64 n'] 24)
  have g1 := heap_alloc_new (w.alloc (.cells #[.int .i64 s, .int .i64 n] 24)) (.cells #[.int .i64 s', .int .i64 n'] 24)
  go_enter Tryd.func17, Tryd.ntmps17
  go_wp2_with fail
  generalize (w.alloc (.cells #[.int .i64 s, .int .i64 n] 24)).alloc (.cells #[.int .i64 s', .int .i64 n'] 24) = w0 at HB0 g0 g1 ⊢
  rw [show (w.alloc (.cells #[.int .i64 s, .int .i64 n] 24)).heap.size = w.heap.size + 1 by simp] at g1
  have c00 : w0.cell? ⟨w.heap.size, 0, none⟩ = some (.int .i64 s) := blk_cell g0 0
  have c01 : w0.cell? ⟨w.heap.size, 1, none⟩ = some (.int .i64 n) := blk_cell g0 1
  have c10 : w0.cell? ⟨w.heap.size + 1, 0, none⟩ = some (.int .i64 s') := blk_cell g1 0
  have c11 : w0.cell? ⟨w.heap.size + 1, 1, none⟩ = some (.int .i64 n') := blk_cell g1 1
  have z0 := blk_lt g0
  have z1 := blk_lt g1
  have KP := Aside0.mk (fun W (hb : Below w0.heap.size w0 W) => show W.cell? ⟨w.heap.size, 0, none⟩ = some (.int .i64 s) ∧ W.cell? ⟨w.heap.size, 1, none⟩ = some (.int .i64 n) ∧ W.cell? ⟨w.heap.size + 1, 0, none⟩ = some (.int .i64 s') ∧ W.cell? ⟨w.heap.size + 1, 1, none⟩ = some (.int .i64 n') ∧ Aside0 (Below w0.heap.size w0 W) from
    ⟨(hb.cell (p := ⟨_, 0, none⟩) z0).trans c00, (hb.cell (p := ⟨_, 1, none⟩) z0).trans c01, (hb.cell (p := ⟨_, 0, none⟩) z1).trans c10, (hb.cell (p := ⟨_, 1, none⟩) z1).trans c11, ⟨hb⟩⟩)
  have HR0 := Aside0.mk (Below.refl w0.heap.size w0)
  obtain ⟨A, hA⟩ : ∃ A, Lib.compareInt s s' = A := ⟨_, rfl⟩
  obtain ⟨B, hB⟩ : ∃ B, Lib.compareInt n n' = B := ⟨_, rfl⟩
  have HF := Aside0.mk (show cmpT s n s' n' = orC A B by unfold cmpT; rw [hA, hB])
  have HA := Aside0.mk hA
  have HB := Aside0.mk hB
  clear g0 g1 c00 c01 c10 c11 hA hB
  go_region_held3 (fun W => W.cell? ⟨w.heap.size, 0, none⟩ = some (.int .i64 s) ∧ W.cell? ⟨w.heap.size, 1, none⟩ = some (.int .i64 n) ∧ W.cell? ⟨w.heap.size + 1, 0, none⟩ = some (.int .i64 s') ∧ W.cell? ⟨w.heap.size + 1, 1, none⟩ = some (.int .i64 n') ∧ Aside0 (Below w0.heap.size w0 W))
    (first
      | exact KP.out _ hbq
      | exact KP.out _ (below_drew HR0.out)
      | (go_split_ands; exact KP.out _ (below_alloc (Aside0.out (by assumption)) _)))
    ((go_split_ands
      have hbw := Aside0.out (by assumption : Aside0 (Below w0.heap.size w0 _))
      first
      | (go_at_call 32; refine (Tryd.cmp_Compare_int _ _ _).mono ?_; rintro e wp ⟨rfl, rfl⟩; (first | rw [HA.out] | rw [HB.out]); have hbq := hbw)
      | (go_at_call 31; refine (or_any _ 2 A B _ (by first | exact blk_cell (heap_alloc_new _ _) 0 | exact blk_cell (blk_drew (heap_alloc_new _ _)) 0) (by first | exact blk_cell (heap_alloc_new _ _) 1 | exact blk_cell (blk_drew (heap_alloc_new _ _)) 1)).mono ?_; rintro e wp ⟨rfl, rfl⟩; have hbq := hbw)))
  all_goals
    go_wp2_with fail
    go_ret
    exact ⟨by rw [HF.out]; rfl, below_next HB0.out (by first | exact hbq | exact below_drew (below_alloc HR0.out _))⟩
end Go.Proofs.YtfdfpgkfhcmlcaaDoor
