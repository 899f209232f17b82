/- Functions of Go's library as plain Lean functions, by the shelf's contracts, in the print's form. -/
import Derived.Test.YtpmiddhdgidimaaGreatDoorBase
import Derived.Test.YtpmiddhdgidimaaGreatDoorShelf
import Derived.Test.YtpmiddhdgidimaaGreatDoorWWords
import Derived.Test.YtpmiddhdgidimaaGreatDoorPlain
set_option linter.unusedVariables false
set_option linter.unusedSimpArgs false
namespace Go.Proofs.YtpmiddhdgidimaaGreatDoor
open Go.RowKit Go.Proofs.YtpmiddhdgidimaaGreatDoorW.PrintWords

/-- strings.Repeat, within the model's bound. -/
def strings_Repeat.f (a0 : ByteArray) (a1 : Int) : Option ByteArray := if 0 ≤ a1 ∧ a0.size * a1.toNat ≤ 140737488355328 ∧ a1 ≤ 9223372036854775807 then some ⟨(Lib.repeatL a0.data.toList a1.toNat).toArray⟩ else none
theorem strings_Repeat.calls (a0 : ByteArray) (a1 : Int) (r : ByteArray) (w : World) (h : strings_Repeat.f a0 a1 = some r) :
    Calls Tryz.prog 52 #[.string a0, .int .i64 a1] w fun e w' => e = .returned (.string r) ∧ Below w.heap.size w w' := by
  unfold strings_Repeat.f at h
  split at h
  · rename_i hc
    obtain rfl := Option.some.inj h
    obtain ⟨c, rfl⟩ := Int.eq_ofNat_of_zero_le hc.1
    exact Tryz.strings_Repeat a0 c w (by omega) (by simpa using hc.2.1)
  · exact absurd h (by simp)

/-- strings.Trim, at one ASCII byte. -/
def strings_Trim.f (a0 a1 : ByteArray) : Option ByteArray :=
  match a1.data.toList with
  | [c] => if c.toNat < 128 ∧ a0.size ≤ 9223372036854775807 then some ⟨(Lib.trimB a0.data.toList c).toArray⟩ else none
  | _ => none
theorem strings_Trim.calls (a0 a1 : ByteArray) (r : ByteArray) (w : World) (h : strings_Trim.f a0 a1 = some r) :
    Calls Tryz.prog 16 #[.string a0, .string a1] w fun e w' => e = .returned (.string r) ∧ Drawn0 w w' := by
  unfold strings_Trim.f at h
  split at h
  · rename_i c hc
    split at h
    · rename_i hd
      obtain rfl := Option.some.inj h
      obtain rfl : a1 = ⟨#[c]⟩ := by cases a1; congr 1; exact Array.toList_inj.1 hc
      refine (Tryz.strings_Trim_one a0 c hd.1 w hd.2).mono fun e w' ⟨he, hw⟩ => ⟨he, ?_⟩
      rcases hw with rfl | rfl
      · exact Drawn0.refl _
      · exact ⟨⟨1, rfl⟩⟩
    · exact absurd h (by simp)
  · exact absurd h (by simp)

/-- A block that holds bytes which may be written: what a conversion '[]byte(s)' makes. -/
structure Bytes (W : World) (g : Nat) (l : List UInt8) : Prop where
  cell : ∀ j, j < l.length → W.cell? ⟨g, j, none⟩ = some (.int .u8 (l.getD j 0).toNat)
  free : ∀ j, j < l.length → W.frozen? ⟨g, j, none⟩ = false
  lt : g < W.heap.size
theorem Bytes.below {W W' : World} {g : Nat} {l : List UInt8} {B : Nat} (h : Bytes W g l) (hb : Below B W W') (hg : g < B) : Bytes W' g l :=
  ⟨fun j hj => (hb.cell (p := ⟨g, j, none⟩) hg).trans (h.cell j hj), fun j hj => (hb.frozen (p := ⟨g, j, none⟩) hg).trans (h.free j hj), Nat.lt_of_lt_of_le h.lt hb.size⟩
theorem Bytes.set {W : World} {g : Nat} {l : List UInt8} (h : Bytes W g l) (i : Nat) (hi : i < l.length) (v : UInt8) : Bytes (W.setCell ⟨g, i, none⟩ (.int .u8 v.toNat)) g (l.set i v) := by
  refine ⟨fun j hj => ?_, fun j hj => ?_, by simpa using h.lt⟩
  · rw [List.length_set] at hj
    by_cases hij : i = j
    · subst hij
      rw [World.cell?_setCell_same _ _ _ (h.cell i hi)]
      simp [hi]
    · rw [World.cell?_setCell_other _ _ _ _ (fun h => hij (congrArg Addr.off h)), h.cell j hj]
      simp [hij]
  · rw [List.length_set] at hj
    simpa using h.free j hj
theorem Bytes.back {P : Program} {W : World} {g : Nat} {l : List UInt8} (h : Bytes W g l) (src dst e : TypeId) (cap n : Nat) (hn : n = l.length) (hs : P.underlying src = some (.slice e)) (he : P.underlying e = some (.int .u8)) (hd : P.underlying dst = some .string) :
    (convert src dst (.slice (some ⟨g, 0, none⟩) n cap)).run P W = .ok (.string (mkS l)) W := by
  have := run_convert_bytes_arg (P := P) W src e hs he g 0 l.length cap (l.map fun b => (b.toNat : Int)) (by simp) (fun i hi => by
    rw [Nat.zero_add, h.cell i hi]
    simp [List.getD_eq_getElem?_getD, List.getElem?_eq_getElem hi]) dst hd
  subst hn
  rw [this]
  congr 2
  unfold strOfNums mkS
  rw [List.map_map, show ((fun n : Int => UInt8.ofNat n.toNat) ∘ fun b : UInt8 => (b.toNat : Int)) = id from funext fun b => by simp, List.map_id]

/-- '[]byte(s)' that is written: the world behind it, told by what a walk needs. -/
theorem conv_world {P : Program} (w : World) (src dst e : TypeId) (s : ByteArray) (hs : P.underlying src = some .string) (hd : P.underlying dst = some (.slice e)) (he : P.underlying e = some (.int .u8)) :
    ∃ W cap, (convert src dst (.string s)).run P w = .ok (.slice (some ⟨w.heap.size, 0, none⟩) s.size cap) W ∧ Below w.heap.size w W ∧ W.heap.size = w.heap.size + 1 ∧ Bytes W w.heap.size s.data.toList := by
  refine ⟨_, _, Lib.run_convert_string_bytes w src dst e s hs hd he, ⟨rfl, rfl, rfl, by rw [Lib.bytesWorld_size]; omega, fun i hi => (Lib.bytesWorld_at_old w e s i hi)⟩, Lib.bytesWorld_size w e s, fun j hj => Lib.bytesWorld_cell w e s j (by simpa using hj), fun j hj => ?_, by rw [Lib.bytesWorld_size]; omega⟩
  have hz : j < (Lib.bytesCells w e s).size := by simp [Lib.bytesCells]; simp at hj; omega
  simp only [World.frozen?, Lib.bytesWorld_at_new]
  simp
  omega
end Go.Proofs.YtpmiddhdgidimaaGreatDoor
