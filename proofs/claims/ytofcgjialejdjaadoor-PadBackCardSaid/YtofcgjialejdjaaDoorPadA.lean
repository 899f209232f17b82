/- The contracts of pad.take, pad.Get's deferred closure: what each comes to. -/
import Derived.Test.YtofcgjialejdjaaDoorStr
set_option linter.unusedSimpArgs false
set_option linter.unusedVariables false
set_option linter.unusedSimpArgs false
namespace Go.Proofs.YtofcgjialejdjaaDoor
open Go.RowKit Go.Proofs.YtofcgjialejdjaaDoorW.PrintWords

/-- take, where enough stands there. -/
theorem take_ok (s : ByteArray) (at_ n : Int) (w : World) (h0 : 0 ≤ at_) (h1 : 0 ≤ n) (h2 : n ≤ s.size - at_) (h3 : at_ ≤ s.size) (hs : s.size ≤ 140737488355328) :
    Calls Tryd.prog 16 #[.string s, .int .i64 at_, .int .i64 n] w fun e w' => e = .returned (.string (s.extract at_.toNat (at_ + n).toNat)) ∧ w' = w := by
  have hsl := fun (W : World) => run_slice_string (P := Tryd.prog) W 9 s .i64 .i64 at_ (at_ + n) Tryd.underlying9 h0 (by omega) (by omega)
  go_enter Tryd.func16, Tryd.ntmps16
  go_wp2
  go_ret
  exact ⟨rfl, rfl⟩

/-- take, where too little stands there: it ends by a panic. -/
theorem take_lacks (s : ByteArray) (at_ n : Int) (w : World) (h0 : 0 ≤ at_) (h1 : 0 ≤ n) (hn : n ≤ 4611686018427387904) (h2 : s.size - at_ < n) (h3 : at_ ≤ s.size) (hs : s.size ≤ 140737488355328) :
    Calls Tryd.prog 16 #[.string s, .int .i64 at_, .int .i64 n] w fun e w' => e = .panicked (Chain 41 (.agg #[.int .i64 (n - s.size + at_)])) ∧ w' = w := by
  go_enter Tryd.func16, Tryd.ntmps16
  go_wp2
  exact ⟨rfl, rfl, rfl⟩

/-- The deferred closure of Get, where the frame below panics with pad.lacks: the results are laid. -/
theorem padGet_catch (p q r : Nat) (x y z : Value) (n : Int) (older : List PanicEntry) (w : World)
    (hp : w.cell? ⟨p, 0, none⟩ = some x) (hp' : w.frozen? ⟨p, 0, none⟩ = false) (hq : w.cell? ⟨q, 0, none⟩ = some y) (hq' : w.frozen? ⟨q, 0, none⟩ = false) (hr : w.cell? ⟨r, 0, none⟩ = some z) (hr' : w.frozen? ⟨r, 0, none⟩ = false)
    (hpq : ¬ p = q) (hpr : ¬ p = r) (hqr : ¬ q = r) (hpb : p < w.heap.size) (hqb : q < w.heap.size) (hrb : r < w.heap.size) :
    CallsD Tryd.prog 15 #[.pointer (some ⟨p, 0, none⟩), .pointer (some ⟨q, 0, none⟩), .pointer (some ⟨r, 0, none⟩)] (.panicking ({ v := .iface 41 (.agg #[.int .i64 n]), recovered := false } :: older)) w fun e u' w' =>
      e = .returned (.tuple #[]) ∧ u' = .panicking ({ v := .iface 41 (.agg #[.int .i64 n]), recovered := true } :: older) ∧
        w' = (((w.setCell ⟨p, 0, none⟩ (.string ⟨#[]⟩)).setCell ⟨q, 0, none⟩ (.int .i64 0)).setCell ⟨r, 0, none⟩ (.int .i64 5)).alloc (.cells #[.int .i64 n] 41) := by
  have hta := fun (W : World) => run_typeAssert_struct (P := Tryd.prog) 41 20 (.agg #[.int .i64 n]) W Tryd.underlying41
  refine callsD_of_wpS Tryd.func15 rfl fun c₀ cs hu => ?_
  apply wpS_seq
  apply wpS_region
  simp [wpOpsS, go_sem, recoverD, hu, Tryd.ntmps15, Exit.thenS]
  refine wpS_of_wp ?_
  simp only [Array.replicate, List.replicate, List.setIfInBounds_toArray, List.set_cons_zero, List.set_cons_succ, List.append_toArray, List.cons_append, List.nil_append]
  go_wp2
  simp [bodyPostS, results, Tryd.results15]

/-- The deferred closure of Get, where the frame below returns: nothing. -/
theorem padGet_idle (a b c : Value) (w : World) :
    CallsD Tryd.prog 15 #[a, b, c] .returning w fun e u' w' => e = .returned (.tuple #[]) ∧ u' = .returning ∧ w' = w := by
  refine callsD_of_wpS Tryd.func15 rfl fun c₀ cs hu => ?_
  apply wpS_seq
  apply wpS_region
  simp [wpOpsS, go_sem, recoverD, hu, Tryd.ntmps15, Exit.thenS]
  refine wpS_of_wp ?_
  simp only [Array.replicate, List.replicate, List.setIfInBounds_toArray, List.set_cons_zero, List.set_cons_succ, List.append_toArray, List.cons_append, List.nil_append]
  go_wp2
  cases c₀
  simp_all [bodyPostS, results, Tryd.results15]

/-- Get, where its arguments may not be. -/
theorem padGet_arg (s : ByteArray) (at_ n : Int) (w : World) (h : at_ < 0 ∨ s.size < at_ ∨ n < 0 ∨ 4611686018427387904 < n) :
    Calls Tryd.prog 8 #[.string s, .int .i64 at_, .int .i64 n] w fun e w' => e = .returned (.tuple #[.string ⟨#[]⟩, .int .i64 0, .int .i64 1]) ∧ Below w.heap.size w w' := by
  have HB := Below.refl w.heap.size w
  rcases h with h | h | h | h
  all_goals
    go_enter_defers Tryd.func8, Tryd.ntmps8
    go_wp2
  all_goals
    simp [bodyPostD, Leaves, settle, results, Tryd.results8, go_sem]
    go_grown

/-- How much room n bytes take. -/
def padSize (n : Int) : Int := (max 0 (min n 4611686018427387904) + 511) / 512 * 512
theorem padSize_bd (n : Int) (h0 : 0 ≤ n) (h1 : n ≤ 4611686018427387904) : n ≤ padSize n ∧ padSize n ≤ n + 511 ∧ padSize n ≤ 4611686018427387904 := by
  unfold padSize; omega
theorem padSize_in (n : Int) : 0 ≤ padSize n ∧ padSize n ≤ 4611686018427387904 := by
  unfold padSize; omega

def pad_Size.f (a0 : Int) : Option Int := some (padSize a0)
theorem padSize_any (n : Int) (w : World) : Calls Tryd.prog 10 #[.int .i64 n] w fun e w' => e = .returned (.int .i64 (padSize n)) ∧ w' = w := by
  have h2 : padSize n = (max 0 (min n 4611686018427387904) + 511) / 512 * 512 := rfl
  have H2 := Lib.hid h2
  clear h2
  go_enter Tryd.func10, Tryd.ntmps10
  go_wp2
  go_ret
  exact ⟨by rw [H2.out]; show Ending.returned (.int .i64 ((max 0 (min n 4611686018427387904) + 512 - 1) / 512 * 512)) = _; rw [show max 0 (min n 4611686018427387904) + 512 - 1 = max 0 (min n 4611686018427387904) + 511 by omega], rfl⟩
theorem pad_Size.calls (a0 r : Int) (w : World) (h : pad_Size.f a0 = some r) :
    Calls Tryd.prog 10 #[.int .i64 a0] w fun e w' => e = .returned (.int .i64 r) ∧ Drawn0 w w' := by
  obtain rfl := Option.some.inj h
  exact (padSize_any a0 w).mono fun e w' ⟨he, hw⟩ => ⟨he, hw ▸ Drawn0.refl _⟩

def gripsackref1_Size.f (a0 : Int) : Option Int := some (padSize a0)
theorem gripsackref1_Size.calls (a0 r : Int) (w : World) (h : gripsackref1_Size.f a0 = some r) :
    Calls Tryd.prog 11 #[.int .i64 a0] w fun e w' => e = .returned (.int .i64 r) ∧ Drawn0 w w' := by
  obtain rfl := Option.some.inj h
  have h2 : padSize a0 = (max 0 (min a0 4611686018427387904) + 511) / 512 * 512 := rfl
  have H2 := Lib.hid h2
  clear h2
  go_enter Tryd.func11, Tryd.ntmps11
  go_wp2
  go_ret
  exact ⟨by rw [H2.out]; rfl, Drawn0.refl _⟩

/-- Get, where too little stands there. -/
theorem padGet_lacks (s : ByteArray) (at_ n : Int) (w : World) (h0 : 0 ≤ at_) (h1 : at_ ≤ s.size) (h2 : 0 ≤ n) (h3 : n ≤ 4611686018427387904) (h4 : s.size - at_ < padSize n) (hs : s.size ≤ 140737488355328) :
    Calls Tryd.prog 8 #[.string s, .int .i64 at_, .int .i64 n] w fun e w' => e = .returned (.tuple #[.string ⟨#[]⟩, .int .i64 0, .int .i64 5]) ∧ Below w.heap.size w w' := by
  have hmf : ∀ (fn : Fn) (first cap : Array Value) (w : World), (Instr.makeFunc fn first cap).run Tryd.prog w = .ok (.func fn first cap) w := fun _ _ _ _ => rfl
  have hz := padSize_bd n h2 h3
  have g0 : (decide (at_ < 0) || decide (s.size < at_) || decide (n < 0) || decide (4611686018427387904 < n)) = false := by simp; omega
  go_enter_defers Tryd.func8, Tryd.ntmps8
  go_wp2_with (first | (go_at_call 10; refine (padSize_any _ _).mono ?_; rintro e w' ⟨rfl, rfl⟩) | (go_at_call 16; refine (take_lacks _ _ _ _ h0 (by omega) (by omega) h4 h1 hs).mono ?_; rintro e w' ⟨rfl, rfl⟩))
  refine leaves_cons (f := 15) (args := #[.pointer (some ⟨w.heap.size, 0, none⟩), .pointer (some ⟨w.heap.size + 1, 0, none⟩), .pointer (some ⟨w.heap.size + 1 + 1, 0, none⟩)]) (by simp) (by simp [go_sem]) ?_
  refine (padGet_catch _ _ _ (.string ⟨#[]⟩) (.int .i64 0) (.int .i64 0) _ [] _ ?_ ?_ ?_ ?_ ?_ ?_ ?_ ?_ ?_ ?_ ?_ ?_).mono ?_
  all_goals first | (simp [go_sem]; done) | omega | skip
  rintro e u' w'' ⟨rfl, rfl, rfl⟩
  simp [Leaves, settle, results, Tryd.results8, go_sem]
  go_grown

/-- Get, where enough stands there: by whether what fills the blocks is bytes 0 alone. -/
theorem padGet_there (s : ByteArray) (at_ n : Int) (w : World) (h0 : 0 ≤ at_) (h1 : at_ ≤ s.size) (h2 : 0 ≤ n) (h3 : n ≤ 4611686018427387904) (h4 : padSize n ≤ s.size - at_) (hs : s.size ≤ 140737488355328)
    (t : ByteArray) (ht : s.extract at_.toNat (at_ + padSize n).toNat = t) (x : ByteArray) (hx : strings_Trim.f (t.extract n.toNat t.size) ⟨#[0]⟩ = some x) :
    (x.toList.isEmpty = false → Calls Tryd.prog 8 #[.string s, .int .i64 at_, .int .i64 n] w fun e w' => e = .returned (.tuple #[.string ⟨#[]⟩, .int .i64 0, .int .i64 4]) ∧ Below w.heap.size w w') ∧
    (x.toList.isEmpty = true → Calls Tryd.prog 8 #[.string s, .int .i64 at_, .int .i64 n] w fun e w' => e = .returned (.tuple #[.string (t.extract 0 n.toNat), .int .i64 (at_ + t.size), .int .i64 0]) ∧ Below w.heap.size w w') := by
  have hmf : ∀ (fn : Fn) (first cap : Array Value) (w : World), (Instr.makeFunc fn first cap).run Tryd.prog w = .ok (.func fn first cap) w := fun _ _ _ _ => rfl
  have hz := padSize_bd n h2 h3
  have hts : n ≤ (t.size : Int) := by rw [← ht]; simp; omega
  have hts2 : (t.size : Int) ≤ s.size - at_ := by rw [← ht]; simp; omega
  have hsl := fun (W : World) => run_slice_string_l (P := Tryd.prog) W 9 t Tryd.underlying9 .i64 n h2 hts
  have g0 : (decide (at_ < 0) || decide (s.size < at_) || decide (n < 0) || decide (4611686018427387904 < n)) = false := by simp; omega
  have HT := Lib.hid ht
  clear ht
  refine ⟨fun hne => ?_, fun hne => ?_⟩
  all_goals
    go_enter_defers Tryd.func8, Tryd.ntmps8
    go_wp2_with (first | (go_at_call 10; refine (padSize_any _ _).mono ?_; rintro e w' ⟨rfl, rfl⟩) | (go_at_call 16; refine (take_ok _ _ _ _ h0 (by omega) h4 h1 hs).mono ?_; rintro e w' ⟨rfl, rfl⟩; rw [HT.out]) | (go_at_call 17; refine (strings_Trim.calls _ _ _ _ hx).mono ?_; rintro e w' ⟨rfl, ⟨nq, rfl⟩⟩))
    refine leaves_cons (f := 15) (args := #[.pointer (some ⟨w.heap.size, 0, none⟩), .pointer (some ⟨w.heap.size + 1, 0, none⟩), .pointer (some ⟨w.heap.size + 1 + 1, 0, none⟩)]) (by simp) (by simp [go_sem]) ?_
    refine (padGet_idle _ _ _ _).mono ?_
    rintro e u' w'' ⟨rfl, rfl, rfl⟩
    simp [Leaves, settle, results, Tryd.results8, go_sem]
    exact below_drewN (by go_grown) _

/-- Get as a plain function. -/
def pad_Get.f (s : ByteArray) (at_ n : Int) : Option (ByteArray × Int × Int) :=
  if 140737488355328 < s.size then none
  else if at_ < 0 ∨ s.size < at_ ∨ n < 0 ∨ 4611686018427387904 < n then some (⟨#[]⟩, 0, 1)
  else if s.size - at_ < padSize n then some (⟨#[]⟩, 0, 5)
  else if Lib.trimB ((s.extract at_.toNat (at_ + padSize n).toNat).data.toList.drop n.toNat) 0 = [] then some (s.extract at_.toNat (at_ + n).toNat, at_ + padSize n, 0)
  else some (⟨#[]⟩, 0, 4)
theorem extract_drop (t : ByteArray) (a : Nat) : (t.extract a t.size).data.toList = t.data.toList.drop a := by
  simp
  exact List.take_of_length_le (by simp)
theorem pad_Get.calls (s : ByteArray) (at_ n : Int) (r1 : ByteArray) (r2 r3 : Int) (w : World) (h : pad_Get.f s at_ n = some (r1, r2, r3)) :
    Calls Tryd.prog 8 #[.string s, .int .i64 at_, .int .i64 n] w fun e w' => e = .returned (.tuple #[.string r1, .int .i64 r2, .int .i64 r3]) ∧ Below w.heap.size w w' := by
  unfold pad_Get.f at h
  split at h
  · exact absurd h (by simp)
  rename_i hs
  split at h
  · rename_i ha
    simp only [Option.some.injEq, Prod.mk.injEq] at h
    obtain ⟨rfl, rfl, rfl⟩ := h
    exact padGet_arg s at_ n w ha
  rename_i ha
  split at h
  · rename_i hl
    simp only [Option.some.injEq, Prod.mk.injEq] at h
    obtain ⟨rfl, rfl, rfl⟩ := h
    exact padGet_lacks s at_ n w (by omega) (by omega) (by omega) (by omega) hl (by omega)
  rename_i hl
  have hz := padSize_bd n (by omega) (by omega)
  have hsz : ((s.extract at_.toNat (at_ + padSize n).toNat).size : Int) = padSize n := by simp; omega
  have hx : strings_Trim.f ((s.extract at_.toNat (at_ + padSize n).toNat).extract n.toNat (s.extract at_.toNat (at_ + padSize n).toNat).size) ⟨#[0]⟩ = some ⟨(Lib.trimB ((s.extract at_.toNat (at_ + padSize n).toNat).data.toList.drop n.toNat) 0).toArray⟩ := by
    unfold strings_Trim.f
    simp only []
    rw [if_pos ⟨by decide, by simp; omega⟩, extract_drop]
  obtain ⟨h1, h2⟩ := padGet_there s at_ n w (by omega) (by omega) (by omega) (by omega) (by omega) (by omega) _ rfl _ hx
  split at h
  · rename_i he
    simp only [Option.some.injEq, Prod.mk.injEq] at h
    obtain ⟨rfl, rfl, rfl⟩ := h
    have h3 := h2 (by rw [he, Lib.toList_data]; rfl)
    rw [hsz, show (s.extract at_.toNat (at_ + padSize n).toNat).extract 0 n.toNat = s.extract at_.toNat (at_ + n).toNat from by
      rw [ByteArray.extract_extract]; congr 1; omega] at h3
    exact h3
  · rename_i he
    simp only [Option.some.injEq, Prod.mk.injEq] at h
    obtain ⟨rfl, rfl, rfl⟩ := h
    refine h1 ?_
    rw [Lib.toList_data]
    cases hq : Lib.trimB ((s.extract at_.toNat (at_ + padSize n).toNat).data.toList.drop n.toNat) 0 with
    | nil => exact absurd hq he
    | cons a b => rfl
end Go.Proofs.YtofcgjialejdjaaDoor
