/- acl.perm, acl.Mode: a list as nine bits. -/
import Derived.Test.YtejgnnhmeolphaaDoorAclMay
set_option linter.unusedVariables false
set_option linter.unusedSimpArgs false
namespace Go.Proofs.YtejgnnhmeolphaaDoor
open Go.RowKit Go.Proofs.YtejgnnhmeolphaaDoorW.PrintWords Go.Proofs.YtejgnnhmeolphaaDoor.PAclR

/-- Where the first part of a tag stands; -1: nowhere. -/
def idxTag (l : List Ace) (tag : Int) : Int := match l.findIdx? (fun a => a.f0 == tag) with | some i => i | none => -1
theorem idxTag_none {l : List Ace} {tag : Int} (h : ∀ a ∈ l, a.f0 ≠ tag) : idxTag l tag = -1 := by
  unfold idxTag
  rw [List.findIdx?_eq_none_iff.2 (fun a ha => by simpa using h a ha)]
theorem idxTag_some {l : List Ace} {tag : Int} {i : Nat} {a : Ace} (h : ∀ a ∈ l.take i, a.f0 ≠ tag) (hd : l.drop i = a :: l.drop (i + 1)) (ha : a.f0 = tag) : idxTag l tag = i := by
  have hi : i < l.length := by
    have := congrArg List.length hd
    simp at this; omega
  unfold idxTag
  have : l.findIdx? (fun a => a.f0 == tag) = some i := by
    rw [List.findIdx?_eq_some_iff_getElem]
    refine ⟨hi, ?_, fun j hj => ?_⟩
    · have := List.drop_eq_getElem_cons hi
      rw [hd] at this
      rw [← (List.cons.inj this).1, ha]; simp
    · have := h l[j] (List.mem_take_iff_getElem.2 ⟨j, by omega, rfl⟩)
      simpa using this
  rw [this]

theorem permClosure (t i p tag : Int) (g : Nat) (w : World) (hg : w.cell? ⟨g, 0, none⟩ = some (.int .i64 tag)) (hlt : g < w.heap.size) :
    Calls Tryd.prog 43 #[.agg #[.int .i64 t, .int .i64 i, .int .i64 p], .pointer (some ⟨g, 0, none⟩)] w fun e w' => e = .returned (.bool (t == tag)) ∧ Below w.heap.size w w' := by
  go_enter Tryd.func43, Tryd.ntmps43
  go_wp2
  go_ret
  exact ⟨rfl, by go_grown⟩

set_option maxHeartbeats 1000000 in
set_option maxRecDepth 100000 in
theorem indexTag (A : Option Addr) (c : Nat) (l : List Ace) (tag : Int) (g : Nat) (w : World) (hr : Kd.C k27 w A l.length l) (hc : l.length ≤ c) (hl : l.length ≤ 1000000)
    (hg : w.cell? ⟨g, 0, none⟩ = some (.int .i64 tag)) (hgl : g < w.heap.size) :
    Calls Tryd.prog 42 #[.slice A l.length c, .func (Fn.func 43) #[] #[.pointer (some ⟨g, 0, none⟩)]] w fun e w' => e = .returned (.int .i64 (idxTag l tag)) ∧ Below w.heap.size w w' := by
  have HR := Aside0.mk hr
  clear hr
  go_enter Tryd.func42, Tryd.ntmps42
  go_wp2_with fail
  go_loopw [8] (fun v wr => ∃ i : Nat, i ≤ l.length ∧ v = .int .i64 i ∧ Aside0 (∀ a ∈ l.take i, a.f0 ≠ tag) ∧ Aside0 (Below w.heap.size w wr)) (fun v _ => l.length - (intOf v).toNat)
  case atStart => exact ⟨0, Nat.zero_le _, rfl, ⟨by simp⟩, ⟨Below.refl _ _⟩⟩
  case round =>
    obtain ⟨i, hi, rfl, HN, HB⟩ := hrel
    by_cases hlt : i < l.length
    · obtain ⟨ad, rfl, h0, h1, h2⟩ := at_T27 (Kd.C_below HR.out HB.out) (i : Int) (by omega) (by omega)
      obtain ⟨⟨t, id, pm⟩, ha⟩ : ∃ a, rd_T27 l (i : Int) = a := ⟨_, rfl⟩
      rw [ha, Int.toNat_natCast] at h0 h1 h2
      have HA := Aside0.mk ha
      clear ha
      have hgr : wr.cell? ⟨g, 0, none⟩ = some (.int .i64 tag) := (HB.out.cell (p := ⟨g, 0, none⟩) hgl).trans hg
      have hgz : g < wr.heap.size := Nat.lt_of_lt_of_le hgl HB.out.size
      by_cases ht : t = tag
      · have HT := Aside0.mk ht
        have e1 : (t == tag) = true := by rw [ht]; simp
        clear ht
        go_wp2_with (go_at_call 43; refine (permClosure _ _ _ _ _ _ hgr hgz).mono ?_; rintro e w1 ⟨rfl, hb1⟩)
        go_ret
        exact ⟨by rw [idxTag_some HN.out (drop_at HA hlt) HT.out]; rfl, below_next HB.out hb1⟩
      · have HT := Aside0.mk ht
        have e1 : (t == tag) = false := by simpa using ht
        clear ht
        go_wp2_with (go_at_call 43; refine (permClosure _ _ _ _ _ _ hgr hgz).mono ?_; rintro e w1 ⟨rfl, hb1⟩)
        go_roundw
        case measure => simp [intOf]; omega
        case rel =>
          refine ⟨i + 1, by omega, by go_num, ⟨fun a hm => ?_⟩, ⟨below_next HB.out hb1⟩⟩
          have hd := List.drop_eq_getElem_cons hlt
          rw [drop_at HA hlt] at hd
          rw [List.take_succ_eq_append_getElem hlt, ← (List.cons.inj hd).1] at hm
          rcases List.mem_append.1 hm with hm | hm
          · exact HN.out a hm
          · obtain rfl : a = _ := by simpa using hm
            exact HT.out
    · obtain rfl : i = l.length := by omega
      go_wp2_with fail
      go_ret
      have := HN.out
      rw [List.take_length] at this
      exact ⟨by rw [idxTag_none this]; rfl, HB.out⟩

/-- What the first part of a tag allows; -1: there is none. -/
def permL (l : List Ace) (tag : Int) : Int := match l.find? (fun a => a.f0 == tag) with | some a => a.f2 | none => -1
theorem permL_idx (l : List Ace) (tag : Int) : (idxTag l tag = -1 ∧ permL l tag = -1) ∨ ∃ i : Nat, i < l.length ∧ idxTag l tag = i ∧ permL l tag = (rd_T27 l (i : Int)).f2 := by
  unfold idxTag permL
  cases h : l.findIdx? (fun a => a.f0 == tag) with
  | none =>
    left
    have h2 : l.find? (fun a => a.f0 == tag) = none := by
      rw [List.find?_eq_none]
      exact fun a ha => by have := List.findIdx?_eq_none_iff.1 h a ha; simp [this]
    rw [h2]; exact ⟨rfl, rfl⟩
  | some i =>
    right
    obtain ⟨hi, h1, h2⟩ := List.findIdx?_eq_some_iff_getElem.1 h
    refine ⟨i, hi, rfl, ?_⟩
    have h3 : l.find? (fun a => a.f0 == tag) = some l[i] := by
      rw [List.find?_eq_some_iff_getElem]
      exact ⟨h1, i, hi, rfl, fun j hj => by have := h2 j hj; simpa using this⟩
    rw [h3]
    unfold rd_T27
    rw [Int.toNat_natCast, List.getD_eq_getElem?_getD, List.getElem?_eq_getElem hi]; rfl

theorem perm_any (A : Option Addr) (c : Nat) (l : List Ace) (tag : Int) (w : World) (hr : Kd.C k27 w A l.length l) (hc : l.length ≤ c) (hl : l.length ≤ 1000000) :
    Calls Tryd.prog 27 #[.slice A l.length c, .int .i64 tag] w fun e w' => e = .returned (.int .i64 (permL l tag)) ∧ Below w.heap.size w w' := by
  have hmf : ∀ (fn : Fn) (first cap : Array Value) (w : World), (Instr.makeFunc fn first cap).run Tryd.prog w = .ok (.func fn first cap) w := fun _ _ _ _ => rfl
  have HR := Aside0.mk hr
  clear hr
  rcases permL_idx l tag with ⟨h1, h2⟩ | ⟨i, hi, h1, h2⟩
  · have H1 := Aside0.mk h1
    have H2 := Aside0.mk h2
    clear h1 h2
    go_enter Tryd.func27, Tryd.ntmps27
    go_wp2_with (go_at_call 42; refine (indexTag _ _ _ tag _ _ (Kd.C_below HR.out (below_alloc (Below.refl _ _) _)) hc hl (by go_simp) (by simp)).mono ?_; rintro e w1 ⟨rfl, hb1⟩; rw [H1.out])
    go_ret
    exact ⟨by rw [H2.out]; rfl, below_next (below_alloc (Below.refl _ _) _) hb1⟩
  · have H1 := Aside0.mk h1
    have H2 := Aside0.mk h2
    clear h1 h2
    go_enter Tryd.func27, Tryd.ntmps27
    go_wp2_with (go_at_call 42; refine (indexTag _ _ _ tag _ _ (Kd.C_below HR.out (below_alloc (Below.refl _ _) _)) hc hl (by go_simp) (by simp)).mono ?_; rintro e w1 ⟨rfl, hb1⟩; rw [H1.out]; obtain ⟨ad, rfl, c0, c1, c2⟩ := at_T27 (Kd.C_below HR.out (below_next (below_alloc (Below.refl _ _) _) hb1)) (i : Int) (by omega) (by omega); rw [Int.toNat_natCast, ← H2.out] at c2)
    go_ret
    exact ⟨rfl, below_next (below_alloc (Below.refl _ _) _) hb1⟩

/-- What a list that may be has for its group's three bits. -/
def groupL (l : List Ace) : Int := if permL l 5 < 0 then permL l 3 else permL l 5
def modeL (l : List Ace) : Int := Go.bits .or .i64 (Go.bits .or .i64 (permL l 1 * 64) (groupL l * 8)) (permL l 6)
set_option maxHeartbeats 1000000 in
theorem mode_any (A : Option Addr) (c : Nat) (l : List Ace) (w : World) (hr : Kd.C k27 w A l.length l) (hc : l.length ≤ c) (hl : l.length ≤ 1000000)
    (b1 : 0 ≤ permL l 1 ∧ permL l 1 ≤ 7) (b3 : 0 ≤ permL l 3 ∧ permL l 3 ≤ 7) (b5 : permL l 5 ≤ 7) (b6 : 0 ≤ permL l 6 ∧ permL l 6 ≤ 7) :
    Calls Tryd.prog 12 #[.slice A l.length c] w fun e w' => e = .returned (.int .i64 (modeL l)) ∧ Below w.heap.size w w' := by
  have HR := Aside0.mk hr
  clear hr
  have HM : Aside0 (modeL l = Go.bits .or .i64 (Go.bits .or .i64 (permL l 1 * 64) (groupL l * 8)) (permL l 6)) := ⟨rfl⟩
  by_cases h5 : permL l 5 < 0
  · have HG : Aside0 (groupL l = permL l 3) := ⟨by unfold groupL; rw [if_pos h5]⟩
    go_enter Tryd.func12, Tryd.ntmps12
    go_wp2_with fail
    refine (perm_any A c l 5 _ HR.out hc hl).mono ?_
    rintro e w1 ⟨rfl, hb1⟩
    go_wp2_with fail
    refine (perm_any A c l 3 _ (Kd.C_below HR.out hb1) hc hl).mono ?_
    rintro e w2 ⟨rfl, hb2⟩
    go_wp2_with fail
    have hb12 := below_next hb1 hb2
    refine (perm_any A c l 1 _ (Kd.C_below HR.out hb12) hc hl).mono ?_
    rintro e w3 ⟨rfl, hb3⟩
    have hb13 := below_next hb12 hb3
    go_wp2_with fail
    refine (perm_any A c l 6 _ (Kd.C_below HR.out hb13) hc hl).mono ?_
    rintro e w4 ⟨rfl, hb4⟩
    go_wp2_with fail
    go_ret
    exact ⟨by rw [HM.out, HG.out]; rfl, below_next hb13 hb4⟩
  · have HG : Aside0 (groupL l = permL l 5) := ⟨by unfold groupL; rw [if_neg h5]⟩
    go_enter Tryd.func12, Tryd.ntmps12
    go_wp2_with fail
    refine (perm_any A c l 5 _ HR.out hc hl).mono ?_
    rintro e w1 ⟨rfl, hb1⟩
    go_wp2_with fail
    refine (perm_any A c l 1 _ (Kd.C_below HR.out hb1) hc hl).mono ?_
    rintro e w3 ⟨rfl, hb3⟩
    have hb13 := below_next hb1 hb3
    go_wp2_with fail
    refine (perm_any A c l 6 _ (Kd.C_below HR.out hb13) hc hl).mono ?_
    rintro e w4 ⟨rfl, hb4⟩
    go_wp2_with fail
    go_ret
    exact ⟨by rw [HM.out, HG.out]; rfl, below_next hb13 hb4⟩
end Go.Proofs.YtejgnnhmeolphaaDoor
