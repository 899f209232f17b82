/- AclRefuses: the walk. -/
import Derived.Test.YtejgnnhmeolphaaDoorAclMake
import Derived.Test.YtejgnnhmeolphaaDoorAclLaw
set_option linter.unusedVariables false
set_option linter.unusedSimpArgs false
namespace Go.Proofs.YtejgnnhmeolphaaDoor
open Go.RowKit Go.Proofs.YtejgnnhmeolphaaDoorW.PrintWords Go.Proofs.YtejgnnhmeolphaaDoor.PAclR

theorem restL_sub (l : List Ace) (i : Int) : ∀ x ∈ restL l i, x ∈ l := by
  intro x hx
  cases l with
  | nil => exact hx
  | cons y r =>
    simp only [restL] at hx
    split at hx
    · exact List.mem_cons_of_mem _ hx
    · exact hx
theorem addL_mem (l : List Ace) (a : Ace) : ∀ x ∈ addL l a, x ∈ l ∨ x = a := by
  intro x hx
  unfold addL at hx
  simp only [List.mem_append, List.mem_singleton] at hx
  rcases hx with (hx | hx) | hx
  · exact .inl (List.mem_of_mem_take hx)
  · exact .inr hx
  · exact .inl (List.mem_of_mem_drop (restL_sub _ _ _ hx))
theorem makeUG_tags (ns : List Int) : ∀ j, (∀ x ∈ (makeUG ns j).1, x.f0 = 2) ∧ ∀ x ∈ (makeUG ns j).2, x.f0 = 4
  | 0 => by simp [makeUG]
  | j + 1 => by
    obtain ⟨h1, h2⟩ := makeUG_tags ns j
    simp only [makeUG, makeStep]
    split
    · refine ⟨fun x hx => ?_, h2⟩
      rcases addL_mem _ _ x hx with h | rfl
      · exact h1 x h
      · rfl
    · refine ⟨h1, fun x hx => ?_⟩
      rcases addL_mem _ _ x hx with h | rfl
      · exact h2 x h
      · rfl
/-- The form of a list by numbers. -/
theorem make_shape (ns : List Int) (mode : Int) : ∃ o x a mid, makeL ns mode = ⟨1, 0, o⟩ :: a :: (mid ++ [⟨6, 0, x⟩]) ∧ a.f0 < 6 ∧ mid.length ≤ 8 := by
  have hr : rounds ns.length ≤ 6 := by unfold rounds; omega
  have hl := make_length ns (rounds ns.length)
  have ht := (makeUG_tags ns (rounds ns.length)).1
  unfold makeL
  generalize (makeUG ns (rounds ns.length)).1 = U at hl ht ⊢
  generalize (makeUG ns (rounds ns.length)).2 = G at hl ⊢
  unfold makeOf
  split
  · rename_i h
    obtain rfl : U = [] := List.eq_nil_of_length_eq_zero (by omega)
    exact ⟨mode / 64, mode % 8, ⟨3, 0, mode / 8 % 8⟩, [], rfl, by show (3 : Int) < 6; decide, by simp⟩
  · cases U with
    | nil => exact ⟨mode / 64, mode % 8, ⟨3, 0, Go.bits .xor .i64 (mode / 8 % 8) (ns.getD 0 0 % 8)⟩, G ++ [⟨5, 0, mode / 8 % 8⟩], by simp, by show (3 : Int) < 6; decide, by simp at hl ⊢; omega⟩
    | cons u us => exact ⟨mode / 64, mode % 8, u, us ++ [⟨3, 0, Go.bits .xor .i64 (mode / 8 % 8) (ns.getD 0 0 % 8)⟩] ++ G ++ [⟨5, 0, mode / 8 % 8⟩], by simp, by have := ht u (by simp); omega, by simp at hl ⊢; omega⟩

theorem may_elem {l : List Ace} {a : Ace} (ha : a ∈ l) (hb : ¬ (1 ≤ a.f0 ∧ a.f0 ≤ 6 ∧ mayAceB a = true)) : mayL l = false := by
  unfold mayL
  cases hs : scan l ace0 zeros7 with
  | none => rfl
  | some x => exact absurd (scan_good l _ _ _ hs a ha) hb
theorem may_desc (a b : Ace) (r : List Ace) (h : b.f0 < a.f0 ∨ (b.f0 = a.f0 ∧ b.f1 ≤ a.f1)) : mayL (a :: b :: r) = false := by
  have : scan (a :: b :: r) ace0 zeros7 = none := by
    simp only [scan]
    split
    · rfl
    · rw [if_pos]
      rcases h with h | ⟨h1, h2⟩
      · simp [badB, h]
      · simp [badB, h1, h2]
  unfold mayL
  rw [this]
/-- One number of a part is written. -/
def putF (a : Ace) (j : Nat) (v : Int) : Ace := if j = 0 then ⟨v, a.f1, a.f2⟩ else if j = 1 then ⟨a.f0, v, a.f2⟩ else ⟨a.f0, a.f1, v⟩
theorem ace_put {W : World} {base g n cap : Nat} {xs : List Ace} (h : Kd.R k27 27 W base (fun _ => True) (.slice (some ⟨g, 0, none⟩) n cap) xs) (i j : Nat) (hi : i < n) (hj : j < 3) (v : Int) :
    Kd.R k27 27 (W.setCell ⟨g, i * 3 + j, none⟩ (.int .i64 v)) base (fun _ => True) (.slice (some ⟨g, 0, none⟩) n cap) (xs.set i (putF (xs.getD i ace0) j v)) := by
  obtain ⟨c, hcl, hM, hcc, _⟩ := Kd.R_elem h ace0 (i : Int) (by omega) (by omega)
  have hc := k27_openM hM
  have hh := (Kd.R_seg h (i : Int) (by omega) (by omega) (c := c) (seg := [.int .i64 v]) (j := j) hcl hcc (by show j + 1 ≤ 3; omega) (x' := putF (xs.getD i ace0) j v) (okp := fun _ => False) (by
    simp only [Int.toNat_natCast] at hc
    subst hc
    have : j = 0 ∨ j = 1 ∨ j = 2 := by omega
    rcases this with rfl | rfl | rfl <;> exact k27_mkM _ _ _ _) (fun _ h => h.elim)).1
  exact hh
def badT : List (List UInt8) := [[], [44], [117, 58, 58, 114, 119, 120], [117, 58, 58, 114, 119, 120, 44, 103, 58, 58, 114, 119, 120], [117, 58, 58, 114, 119, 120, 44, 103, 58, 58, 114, 119, 120, 44, 111, 58, 58, 114, 119, 120, 44],
  [117, 58, 58, 114, 119, 120, 120, 44, 103, 58, 58, 114, 45, 45, 44, 111, 58, 58, 114, 45, 45], [117, 58, 48, 49, 58, 114, 119, 120], [117, 58, 58, 114, 119, 120, 44, 117, 58, 53, 58, 114, 45, 45, 44, 103, 58, 58, 114, 45, 45, 44, 111, 58, 58, 114, 45, 45],
  [117, 58, 58, 114, 119, 120, 44, 103, 58, 58, 114, 45, 45, 44, 109, 58, 58, 114, 119, 120, 44, 111, 58, 58, 114, 45, 45]]
theorem bad_none : badT.map parseL = List.replicate 9 none := by kernel_rfl
theorem bad_at (i : Nat) (hi : i < 9) : ∃ t, badT[i]? = some t ∧ parseL t = none ∧ t.length < 1000000 := by
  have hl : badT.length = 9 := rfl
  refine ⟨badT[i]'(by omega), List.getElem?_eq_getElem _, ?_, ?_⟩
  · have h := congrArg (fun l => l[i]?) bad_none
    simp only [List.getElem?_map, List.getElem?_replicate] at h
    rw [if_pos hi, List.getElem?_eq_getElem (by omega)] at h
    exact Option.some.inj h
  · have : ∀ t ∈ badT, t.length < 1000000 := by decide
    exact this _ (List.getElem_mem _)
theorem parse_none (t : List UInt8) (hp : parseL t = none) (ht : t.length < 1000000) (w : World) (hG : Good w) : Calls Tryd.prog 9 #[.string (mkS t)] w fun e w' => e = .returned (.tuple #[.slice none 0 0, .bool false]) ∧ Below w.heap.size w w' := by
  refine (parse_any t w hG ht).mono fun e w' h => ?_
  unfold ParseDone at h
  rw [hp] at h
  exact h
theorem may_no (A : Option Addr) (n c : Nat) (l : List Ace) (w : World) (hn : n = l.length) (hr : Kd.C k27 w A n l) (hc : n ≤ c) (hl : n ≤ 1000) (hm : mayL l = false) :
    Calls Tryd.prog 10 #[.slice A n c] w fun e w' => e = .returned (.bool false) ∧ Below w.heap.size w w' := by
  subst hn
  rw [← hm]
  exact aclMay_any A c l w hr hc (by omega)
theorem hlen_C {W : World} {base g n cap : Nat} {xs : List Ace} (h : Kd.R k27 27 W base (fun _ => True) (.slice (some ⟨g, 0, none⟩) n cap) xs) (hn : n = xs.length) : Kd.C k27 W (some ⟨g, 0, none⟩) n xs := by
  have := (Kd.R_reads' h).2.2
  rwa [← hn] at this
theorem ace_put3 {W : World} {base g n cap : Nat} {xs : List Ace} (h : Kd.R k27 27 W base (fun _ => True) (.slice (some ⟨g, 0, none⟩) n cap) xs) (i : Nat) (hi : i < n) (a0 a1 a2 : Int) :
    Kd.R k27 27 (((W.setCell ⟨g, i * 3, none⟩ (.int .i64 a0)).setCell ⟨g, i * 3 + 1, none⟩ (.int .i64 a1)).setCell ⟨g, i * 3 + 2, none⟩ (.int .i64 a2)) base (fun _ => True) (.slice (some ⟨g, 0, none⟩) n cap) (xs.set i ⟨a0, a1, a2⟩) := by
  have hn : n = xs.length := (Kd.R_reads' h).1
  have hix : i < xs.length := by omega
  have e : ∀ (ys : List Ace) (z : Ace), i < ys.length → (ys.set i z).getD i ace0 = z := fun ys z hy => by simp [List.getD_eq_getElem?_getD, List.getElem?_set, hy]
  have h1 := ace_put h i 0 hi (by decide) a0
  have h2 := ace_put h1 i 1 hi (by decide) a1
  rw [e xs _ hix, List.set_set] at h2
  have h3 := ace_put h2 i 2 hi (by decide) a2
  rw [e xs _ hix, List.set_set] at h3
  exact h3
set_option maxHeartbeats 2000000 in
set_option maxRecDepth 100000 in
theorem refuses_walk0 (A : Option Addr) (c : Nat) (ns : List Int) (m k : Int) (w : World) (hG : Good w) (hN : ReadsInt w .u8 A ns.length ns) (hb : ∀ x ∈ ns, 0 ≤ x ∧ x ≤ 255) (hc : ns.length ≤ c) (h0 : 0 ≤ m ∧ m ≤ 65535) (h1 : 0 ≤ k ∧ k ≤ 255) (hk : k % 6 = 0) :
    Calls Tryd.prog 3 #[.slice A ns.length c, .int .u16 m, .int .u8 k] w fun e w' => e = .returned (.bool true) ∧ Below w.heap.size w w' := by
  have HG := Aside0.mk hG
  clear hG
  go_enter Tryd.func3, Tryd.ntmps3
  go_wp2_with fail
  have hm := make_any A c ns (m % 512) w hN hb hc (by omega)
  refine hm.mono ?_
  rintro e w1 ⟨v, rfl, hR, hb1⟩
  obtain ⟨o, x, a, mid, hL, ha, hmid⟩ := make_shape ns (m % 512)
  rw [hL] at hR
  obtain ⟨n, hn⟩ : ∃ n, n = mid.length + 3 := ⟨_, rfl⟩
  have hlen : (⟨1, 0, o⟩ :: a :: (mid ++ [⟨6, 0, x⟩]) : List Ace).length = n := by simp; omega
  obtain ⟨L, hLL⟩ : ∃ L : List Ace, L = ⟨1, 0, o⟩ :: a :: (mid ++ [⟨6, 0, x⟩]) := ⟨_, rfl⟩
  rw [← hLL] at hR hlen
  obtain ⟨g, cap, rfl, hgb, hgl, cells, hcells⟩ := Kd.R_form hR (by omega)
  rw [hlen] at hR
  obtain ⟨hnl, hcap, hC1⟩ := Kd.R_reads' hR
  clear hnl
  rw [hlen] at hC1
  obtain ⟨ad1, e1, p0, p1, p2⟩ := at_T27 hC1 0 (by omega) (by omega)
  obtain ⟨ad2, e2, q0, q1, q2⟩ := at_T27 hC1 ((n : Int) - 1) (by omega) (by omega)
  obtain rfl := Option.some.inj e1
  obtain rfl := Option.some.inj e2
  have hx0 : rd_T27 L 0 = ⟨1, 0, o⟩ := by rw [hLL]; rfl
  have hxn : rd_T27 L ((n : Int) - 1) = ⟨6, 0, x⟩ := by
    have e : ((n : Int) - 1).toNat = mid.length + 2 := by omega
    rw [hLL]
    unfold rd_T27
    rw [e]
    simp
  have hn1 : ((n : Int) - 1).toNat = n - 1 := by omega
  rw [hx0] at p0 p1 p2
  rw [hxn, hn1] at q0 q1 q2
  simp only [add_plain, Int.toNat_zero, Nat.zero_mul, Nat.zero_add] at p0 p1 p2 q0 q1 q2
  have ff := fun j => blk_frozen hcells j
  have f0 := ff 0
  have f1 := ff 1
  have f2 := ff 2
  have fq0 := ff ((n - 1) * 3)
  have fq1 := ff ((n - 1) * 3 + 1)
  have fq2 := ff ((n - 1) * 3 + 2)
  rw [hlen]
  have HR := Aside0.mk hR
  have HB1 := Aside0.mk hb1
  have HLL := Aside0.mk hLL
  have HC1 := Aside0.mk hC1
  have HA := Aside0.mk ha
  have HN3 := Aside0.mk (And.intro hn hmid)
  have hn3 : 3 ≤ n := by omega
  have hn20 : n ≤ 20 := by omega
  obtain ⟨t, ht, hpn, htl⟩ := bad_at (k % 9).toNat (by omega)
  have hbad : ([Value.string ⟨#[]⟩, Value.string ⟨#[44]⟩, Value.string ⟨#[117, 58, 58, 114, 119, 120]⟩, Value.string ⟨#[117, 58, 58, 114, 119, 120, 44, 103, 58, 58, 114, 119, 120]⟩, Value.string ⟨#[117, 58, 58, 114, 119, 120, 44, 103, 58, 58, 114, 119, 120, 44, 111, 58, 58, 114, 119, 120, 44]⟩, Value.string ⟨#[117, 58, 58, 114, 119, 120, 120, 44, 103, 58, 58, 114, 45, 45, 44, 111, 58, 58, 114, 45, 45]⟩, Value.string ⟨#[117, 58, 48, 49, 58, 114, 119, 120]⟩, Value.string ⟨#[117, 58, 58, 114, 119, 120, 44, 117, 58, 53, 58, 114, 45, 45, 44, 103, 58, 58, 114, 45, 45, 44, 111, 58, 58, 114, 45, 45]⟩, Value.string ⟨#[117, 58, 58, 114, 119, 120, 44, 103, 58, 58, 114, 45, 45, 44, 109, 58, 58, 114, 119, 120, 44, 111, 58, 58, 114, 45, 45]⟩] : List Value)[(k % 9).toNat]? = some (.string (mkS t)) := by
    have h := congrArg (Option.map fun s => Value.string (mkS s)) ht
    rw [← List.getElem?_map] at h
    exact h
  have HPN := Aside0.mk (And.intro hpn htl)
  clear ht hpn htl
  clear hR hb1 hLL hC1 ha hm hn hmid hb hN hx0 hxn hL e1 e2 hcells ff hlen
  have hlen : n = (L.set 0 (putF (L.getD 0 ace0) 2 8)).length := by rw [List.length_set, HLL.out, HN3.out.1]; simp
  have hmay : mayL (L.set 0 (putF (L.getD 0 ace0) 2 8)) = false := by
    rw [HLL.out]
    exact may_elem (a := ⟨1, 0, 8⟩) (by simp [putF]) (by decide)
  have hput := ace_put HR.out 0 2 (by omega) (by decide) 8
  simp only [Nat.zero_mul, Nat.zero_add] at hput
  have HP := Aside0.mk hput
  have HLM := Aside0.mk (And.intro hlen hmay)
  clear hlen hmay hput
  have HBW := Aside0.mk ((below_set HB1.out hgb : Below w.heap.size w (w1.setCell ⟨g, 2, none⟩ (.int .i64 8))))
  have HCW := Aside0.mk (hlen_C HP.out HLM.out.1)
  have HMW := Aside0.mk (HLM.out)
  go_wp2_with (first
    | (go_at_call 9; refine (parse_none t HPN.out.1 HPN.out.2 _ (HG.out.below (below_alloc HBW.out _))).mono ?_; rintro e w2 ⟨rfl, hb2⟩)
    | (go_at_call 10; refine (may_no _ _ _ _ _ HMW.out.1 (Kd.C_below HCW.out (below_next (below_alloc (Below.refl _ _) _) hb2)) (by assumption) (by omega) HMW.out.2).mono ?_; rintro e w3 ⟨rfl, hb3⟩)
    | (go_at_call 11; refine (awake_any _ (HG.out.below (below_next (below_next (below_alloc HBW.out _) hb2) hb3))).mono ?_; rintro e w4 ⟨rfl, hb4⟩))
  all_goals
    go_ret
    exact ⟨rfl, below_next (below_next (below_next (below_alloc HBW.out _) hb2) hb3) hb4⟩
set_option maxHeartbeats 2000000 in
set_option maxRecDepth 100000 in
theorem refuses_walk1 (A : Option Addr) (c : Nat) (ns : List Int) (m k : Int) (w : World) (hG : Good w) (hN : ReadsInt w .u8 A ns.length ns) (hb : ∀ x ∈ ns, 0 ≤ x ∧ x ≤ 255) (hc : ns.length ≤ c) (h0 : 0 ≤ m ∧ m ≤ 65535) (h1 : 0 ≤ k ∧ k ≤ 255) (hk : k % 6 = 1) :
    Calls Tryd.prog 3 #[.slice A ns.length c, .int .u16 m, .int .u8 k] w fun e w' => e = .returned (.bool true) ∧ Below w.heap.size w w' := by
  have HG := Aside0.mk hG
  clear hG
  go_enter Tryd.func3, Tryd.ntmps3
  go_wp2_with fail
  have hm := make_any A c ns (m % 512) w hN hb hc (by omega)
  refine hm.mono ?_
  rintro e w1 ⟨v, rfl, hR, hb1⟩
  obtain ⟨o, x, a, mid, hL, ha, hmid⟩ := make_shape ns (m % 512)
  rw [hL] at hR
  obtain ⟨n, hn⟩ : ∃ n, n = mid.length + 3 := ⟨_, rfl⟩
  have hlen : (⟨1, 0, o⟩ :: a :: (mid ++ [⟨6, 0, x⟩]) : List Ace).length = n := by simp; omega
  obtain ⟨L, hLL⟩ : ∃ L : List Ace, L = ⟨1, 0, o⟩ :: a :: (mid ++ [⟨6, 0, x⟩]) := ⟨_, rfl⟩
  rw [← hLL] at hR hlen
  obtain ⟨g, cap, rfl, hgb, hgl, cells, hcells⟩ := Kd.R_form hR (by omega)
  rw [hlen] at hR
  obtain ⟨hnl, hcap, hC1⟩ := Kd.R_reads' hR
  clear hnl
  rw [hlen] at hC1
  obtain ⟨ad1, e1, p0, p1, p2⟩ := at_T27 hC1 0 (by omega) (by omega)
  obtain ⟨ad2, e2, q0, q1, q2⟩ := at_T27 hC1 ((n : Int) - 1) (by omega) (by omega)
  obtain rfl := Option.some.inj e1
  obtain rfl := Option.some.inj e2
  have hx0 : rd_T27 L 0 = ⟨1, 0, o⟩ := by rw [hLL]; rfl
  have hxn : rd_T27 L ((n : Int) - 1) = ⟨6, 0, x⟩ := by
    have e : ((n : Int) - 1).toNat = mid.length + 2 := by omega
    rw [hLL]
    unfold rd_T27
    rw [e]
    simp
  have hn1 : ((n : Int) - 1).toNat = n - 1 := by omega
  rw [hx0] at p0 p1 p2
  rw [hxn, hn1] at q0 q1 q2
  simp only [add_plain, Int.toNat_zero, Nat.zero_mul, Nat.zero_add] at p0 p1 p2 q0 q1 q2
  have ff := fun j => blk_frozen hcells j
  have f0 := ff 0
  have f1 := ff 1
  have f2 := ff 2
  have fq0 := ff ((n - 1) * 3)
  have fq1 := ff ((n - 1) * 3 + 1)
  have fq2 := ff ((n - 1) * 3 + 2)
  rw [hlen]
  have HR := Aside0.mk hR
  have HB1 := Aside0.mk hb1
  have HLL := Aside0.mk hLL
  have HC1 := Aside0.mk hC1
  have HA := Aside0.mk ha
  have HN3 := Aside0.mk (And.intro hn hmid)
  have hn3 : 3 ≤ n := by omega
  have hn20 : n ≤ 20 := by omega
  obtain ⟨t, ht, hpn, htl⟩ := bad_at (k % 9).toNat (by omega)
  have hbad : ([Value.string ⟨#[]⟩, Value.string ⟨#[44]⟩, Value.string ⟨#[117, 58, 58, 114, 119, 120]⟩, Value.string ⟨#[117, 58, 58, 114, 119, 120, 44, 103, 58, 58, 114, 119, 120]⟩, Value.string ⟨#[117, 58, 58, 114, 119, 120, 44, 103, 58, 58, 114, 119, 120, 44, 111, 58, 58, 114, 119, 120, 44]⟩, Value.string ⟨#[117, 58, 58, 114, 119, 120, 120, 44, 103, 58, 58, 114, 45, 45, 44, 111, 58, 58, 114, 45, 45]⟩, Value.string ⟨#[117, 58, 48, 49, 58, 114, 119, 120]⟩, Value.string ⟨#[117, 58, 58, 114, 119, 120, 44, 117, 58, 53, 58, 114, 45, 45, 44, 103, 58, 58, 114, 45, 45, 44, 111, 58, 58, 114, 45, 45]⟩, Value.string ⟨#[117, 58, 58, 114, 119, 120, 44, 103, 58, 58, 114, 45, 45, 44, 109, 58, 58, 114, 119, 120, 44, 111, 58, 58, 114, 45, 45]⟩] : List Value)[(k % 9).toNat]? = some (.string (mkS t)) := by
    have h := congrArg (Option.map fun s => Value.string (mkS s)) ht
    rw [← List.getElem?_map] at h
    exact h
  have HPN := Aside0.mk (And.intro hpn htl)
  clear ht hpn htl
  clear hR hb1 hLL hC1 ha hm hn hmid hb hN hx0 hxn hL e1 e2 hcells ff hlen
  have hlen : n = (L.set 0 (putF (L.getD 0 ace0) 1 1)).length := by rw [List.length_set, HLL.out, HN3.out.1]; simp
  have hmay : mayL (L.set 0 (putF (L.getD 0 ace0) 1 1)) = false := by
    rw [HLL.out]
    exact may_elem (a := ⟨1, 1, o⟩) (by simp [putF]) (by simp [mayAceB, namedB])
  have hput := ace_put HR.out 0 1 (by omega) (by decide) 1
  simp only [Nat.zero_mul, Nat.zero_add] at hput
  have HP := Aside0.mk hput
  have HLM := Aside0.mk (And.intro hlen hmay)
  clear hlen hmay hput
  have HBW := Aside0.mk ((below_set HB1.out hgb : Below w.heap.size w (w1.setCell ⟨g, 1, none⟩ (.int .i64 1))))
  have HCW := Aside0.mk (hlen_C HP.out HLM.out.1)
  have HMW := Aside0.mk (HLM.out)
  go_wp2_with (first
    | (go_at_call 9; refine (parse_none t HPN.out.1 HPN.out.2 _ (HG.out.below (below_alloc HBW.out _))).mono ?_; rintro e w2 ⟨rfl, hb2⟩)
    | (go_at_call 10; refine (may_no _ _ _ _ _ HMW.out.1 (Kd.C_below HCW.out (below_next (below_alloc (Below.refl _ _) _) hb2)) (by assumption) (by omega) HMW.out.2).mono ?_; rintro e w3 ⟨rfl, hb3⟩)
    | (go_at_call 11; refine (awake_any _ (HG.out.below (below_next (below_next (below_alloc HBW.out _) hb2) hb3))).mono ?_; rintro e w4 ⟨rfl, hb4⟩))
  all_goals
    go_ret
    exact ⟨rfl, below_next (below_next (below_next (below_alloc HBW.out _) hb2) hb3) hb4⟩
set_option maxHeartbeats 2000000 in
set_option maxRecDepth 100000 in
theorem refuses_walk5 (A : Option Addr) (c : Nat) (ns : List Int) (m k : Int) (w : World) (hG : Good w) (hN : ReadsInt w .u8 A ns.length ns) (hb : ∀ x ∈ ns, 0 ≤ x ∧ x ≤ 255) (hc : ns.length ≤ c) (h0 : 0 ≤ m ∧ m ≤ 65535) (h1 : 0 ≤ k ∧ k ≤ 255) (hk : k % 6 = 5) :
    Calls Tryd.prog 3 #[.slice A ns.length c, .int .u16 m, .int .u8 k] w fun e w' => e = .returned (.bool true) ∧ Below w.heap.size w w' := by
  have HG := Aside0.mk hG
  clear hG
  go_enter Tryd.func3, Tryd.ntmps3
  go_wp2_with fail
  have hm := make_any A c ns (m % 512) w hN hb hc (by omega)
  refine hm.mono ?_
  rintro e w1 ⟨v, rfl, hR, hb1⟩
  obtain ⟨o, x, a, mid, hL, ha, hmid⟩ := make_shape ns (m % 512)
  rw [hL] at hR
  obtain ⟨n, hn⟩ : ∃ n, n = mid.length + 3 := ⟨_, rfl⟩
  have hlen : (⟨1, 0, o⟩ :: a :: (mid ++ [⟨6, 0, x⟩]) : List Ace).length = n := by simp; omega
  obtain ⟨L, hLL⟩ : ∃ L : List Ace, L = ⟨1, 0, o⟩ :: a :: (mid ++ [⟨6, 0, x⟩]) := ⟨_, rfl⟩
  rw [← hLL] at hR hlen
  obtain ⟨g, cap, rfl, hgb, hgl, cells, hcells⟩ := Kd.R_form hR (by omega)
  rw [hlen] at hR
  obtain ⟨hnl, hcap, hC1⟩ := Kd.R_reads' hR
  clear hnl
  rw [hlen] at hC1
  obtain ⟨ad1, e1, p0, p1, p2⟩ := at_T27 hC1 0 (by omega) (by omega)
  obtain ⟨ad2, e2, q0, q1, q2⟩ := at_T27 hC1 ((n : Int) - 1) (by omega) (by omega)
  obtain rfl := Option.some.inj e1
  obtain rfl := Option.some.inj e2
  have hx0 : rd_T27 L 0 = ⟨1, 0, o⟩ := by rw [hLL]; rfl
  have hxn : rd_T27 L ((n : Int) - 1) = ⟨6, 0, x⟩ := by
    have e : ((n : Int) - 1).toNat = mid.length + 2 := by omega
    rw [hLL]
    unfold rd_T27
    rw [e]
    simp
  have hn1 : ((n : Int) - 1).toNat = n - 1 := by omega
  rw [hx0] at p0 p1 p2
  rw [hxn, hn1] at q0 q1 q2
  simp only [add_plain, Int.toNat_zero, Nat.zero_mul, Nat.zero_add] at p0 p1 p2 q0 q1 q2
  have ff := fun j => blk_frozen hcells j
  have f0 := ff 0
  have f1 := ff 1
  have f2 := ff 2
  have fq0 := ff ((n - 1) * 3)
  have fq1 := ff ((n - 1) * 3 + 1)
  have fq2 := ff ((n - 1) * 3 + 2)
  rw [hlen]
  have HR := Aside0.mk hR
  have HB1 := Aside0.mk hb1
  have HLL := Aside0.mk hLL
  have HC1 := Aside0.mk hC1
  have HA := Aside0.mk ha
  have HN3 := Aside0.mk (And.intro hn hmid)
  have hn3 : 3 ≤ n := by omega
  have hn20 : n ≤ 20 := by omega
  obtain ⟨t, ht, hpn, htl⟩ := bad_at (k % 9).toNat (by omega)
  have hbad : ([Value.string ⟨#[]⟩, Value.string ⟨#[44]⟩, Value.string ⟨#[117, 58, 58, 114, 119, 120]⟩, Value.string ⟨#[117, 58, 58, 114, 119, 120, 44, 103, 58, 58, 114, 119, 120]⟩, Value.string ⟨#[117, 58, 58, 114, 119, 120, 44, 103, 58, 58, 114, 119, 120, 44, 111, 58, 58, 114, 119, 120, 44]⟩, Value.string ⟨#[117, 58, 58, 114, 119, 120, 120, 44, 103, 58, 58, 114, 45, 45, 44, 111, 58, 58, 114, 45, 45]⟩, Value.string ⟨#[117, 58, 48, 49, 58, 114, 119, 120]⟩, Value.string ⟨#[117, 58, 58, 114, 119, 120, 44, 117, 58, 53, 58, 114, 45, 45, 44, 103, 58, 58, 114, 45, 45, 44, 111, 58, 58, 114, 45, 45]⟩, Value.string ⟨#[117, 58, 58, 114, 119, 120, 44, 103, 58, 58, 114, 45, 45, 44, 109, 58, 58, 114, 119, 120, 44, 111, 58, 58, 114, 45, 45]⟩] : List Value)[(k % 9).toNat]? = some (.string (mkS t)) := by
    have h := congrArg (Option.map fun s => Value.string (mkS s)) ht
    rw [← List.getElem?_map] at h
    exact h
  have HPN := Aside0.mk (And.intro hpn htl)
  clear ht hpn htl
  clear hR hb1 hLL hC1 ha hm hn hmid hb hN hx0 hxn hL e1 e2 hcells ff hlen
  have hlen : n = (L.set (n - 1) (putF (L.getD (n - 1) ace0) 2 (-1))).length := by rw [List.length_set, HLL.out, HN3.out.1]; simp
  have hmay : mayL (L.set (n - 1) (putF (L.getD (n - 1) ace0) 2 (-1))) = false :=
    may_elem (List.mem_set (by have h1 := HLL.out; have h2 := HN3.out.1; rw [h1]; simp; omega) _) (by simp [mayAceB, putF])
  have hput := ace_put HR.out (n - 1) 2 (by omega) (by decide) (-1)
  have HP := Aside0.mk hput
  have HLM := Aside0.mk (And.intro hlen hmay)
  clear hlen hmay hput
  have HBW := Aside0.mk ((below_set HB1.out hgb : Below w.heap.size w (w1.setCell ⟨g, (n - 1) * 3 + 2, none⟩ (.int .i64 (-1)))))
  have HCW := Aside0.mk (hlen_C HP.out HLM.out.1)
  have HMW := Aside0.mk (HLM.out)
  go_wp2_with (first
    | (go_at_call 9; refine (parse_none t HPN.out.1 HPN.out.2 _ (HG.out.below (below_alloc HBW.out _))).mono ?_; rintro e w2 ⟨rfl, hb2⟩)
    | (go_at_call 10; refine (may_no _ _ _ _ _ HMW.out.1 (Kd.C_below HCW.out (below_next (below_alloc (Below.refl _ _) _) hb2)) (by assumption) (by omega) HMW.out.2).mono ?_; rintro e w3 ⟨rfl, hb3⟩)
    | (go_at_call 11; refine (awake_any _ (HG.out.below (below_next (below_next (below_alloc HBW.out _) hb2) hb3))).mono ?_; rintro e w4 ⟨rfl, hb4⟩))
  all_goals
    go_ret
    exact ⟨rfl, below_next (below_next (below_next (below_alloc HBW.out _) hb2) hb3) hb4⟩
set_option maxHeartbeats 2000000 in
set_option maxRecDepth 100000 in
theorem refuses_walk2 (A : Option Addr) (c : Nat) (ns : List Int) (m k : Int) (w : World) (hG : Good w) (hN : ReadsInt w .u8 A ns.length ns) (hb : ∀ x ∈ ns, 0 ≤ x ∧ x ≤ 255) (hc : ns.length ≤ c) (h0 : 0 ≤ m ∧ m ≤ 65535) (h1 : 0 ≤ k ∧ k ≤ 255) (hk : k % 6 = 2) :
    Calls Tryd.prog 3 #[.slice A ns.length c, .int .u16 m, .int .u8 k] w fun e w' => e = .returned (.bool true) ∧ Below w.heap.size w w' := by
  have HG := Aside0.mk hG
  clear hG
  go_enter Tryd.func3, Tryd.ntmps3
  go_wp2_with fail
  have hm := make_any A c ns (m % 512) w hN hb hc (by omega)
  refine hm.mono ?_
  rintro e w1 ⟨v, rfl, hR, hb1⟩
  obtain ⟨o, x, a, mid, hL, ha, hmid⟩ := make_shape ns (m % 512)
  rw [hL] at hR
  obtain ⟨n, hn⟩ : ∃ n, n = mid.length + 3 := ⟨_, rfl⟩
  have hlen : (⟨1, 0, o⟩ :: a :: (mid ++ [⟨6, 0, x⟩]) : List Ace).length = n := by simp; omega
  obtain ⟨L, hLL⟩ : ∃ L : List Ace, L = ⟨1, 0, o⟩ :: a :: (mid ++ [⟨6, 0, x⟩]) := ⟨_, rfl⟩
  rw [← hLL] at hR hlen
  obtain ⟨g, cap, rfl, hgb, hgl, cells, hcells⟩ := Kd.R_form hR (by omega)
  rw [hlen] at hR
  obtain ⟨hnl, hcap, hC1⟩ := Kd.R_reads' hR
  clear hnl
  rw [hlen] at hC1
  obtain ⟨ad1, e1, p0, p1, p2⟩ := at_T27 hC1 0 (by omega) (by omega)
  obtain ⟨ad2, e2, q0, q1, q2⟩ := at_T27 hC1 ((n : Int) - 1) (by omega) (by omega)
  obtain rfl := Option.some.inj e1
  obtain rfl := Option.some.inj e2
  have hx0 : rd_T27 L 0 = ⟨1, 0, o⟩ := by rw [hLL]; rfl
  have hxn : rd_T27 L ((n : Int) - 1) = ⟨6, 0, x⟩ := by
    have e : ((n : Int) - 1).toNat = mid.length + 2 := by omega
    rw [hLL]
    unfold rd_T27
    rw [e]
    simp
  have hn1 : ((n : Int) - 1).toNat = n - 1 := by omega
  rw [hx0] at p0 p1 p2
  rw [hxn, hn1] at q0 q1 q2
  simp only [add_plain, Int.toNat_zero, Nat.zero_mul, Nat.zero_add] at p0 p1 p2 q0 q1 q2
  have ff := fun j => blk_frozen hcells j
  have f0 := ff 0
  have f1 := ff 1
  have f2 := ff 2
  have fq0 := ff ((n - 1) * 3)
  have fq1 := ff ((n - 1) * 3 + 1)
  have fq2 := ff ((n - 1) * 3 + 2)
  rw [hlen]
  have HR := Aside0.mk hR
  have HB1 := Aside0.mk hb1
  have HLL := Aside0.mk hLL
  have HC1 := Aside0.mk hC1
  have HA := Aside0.mk ha
  have HN3 := Aside0.mk (And.intro hn hmid)
  have hn3 : 3 ≤ n := by omega
  have hn20 : n ≤ 20 := by omega
  obtain ⟨t, ht, hpn, htl⟩ := bad_at (k % 9).toNat (by omega)
  have hbad : ([Value.string ⟨#[]⟩, Value.string ⟨#[44]⟩, Value.string ⟨#[117, 58, 58, 114, 119, 120]⟩, Value.string ⟨#[117, 58, 58, 114, 119, 120, 44, 103, 58, 58, 114, 119, 120]⟩, Value.string ⟨#[117, 58, 58, 114, 119, 120, 44, 103, 58, 58, 114, 119, 120, 44, 111, 58, 58, 114, 119, 120, 44]⟩, Value.string ⟨#[117, 58, 58, 114, 119, 120, 120, 44, 103, 58, 58, 114, 45, 45, 44, 111, 58, 58, 114, 45, 45]⟩, Value.string ⟨#[117, 58, 48, 49, 58, 114, 119, 120]⟩, Value.string ⟨#[117, 58, 58, 114, 119, 120, 44, 117, 58, 53, 58, 114, 45, 45, 44, 103, 58, 58, 114, 45, 45, 44, 111, 58, 58, 114, 45, 45]⟩, Value.string ⟨#[117, 58, 58, 114, 119, 120, 44, 103, 58, 58, 114, 45, 45, 44, 109, 58, 58, 114, 119, 120, 44, 111, 58, 58, 114, 45, 45]⟩] : List Value)[(k % 9).toNat]? = some (.string (mkS t)) := by
    have h := congrArg (Option.map fun s => Value.string (mkS s)) ht
    rw [← List.getElem?_map] at h
    exact h
  have HPN := Aside0.mk (And.intro hpn htl)
  clear ht hpn htl
  clear hR hb1 hLL hC1 ha hm hn hmid hb hN hx0 hxn hL e1 e2 hcells ff hlen
  have hlen : n = ((L.set 0 ⟨6, 0, x⟩).set (n - 1) ⟨1, 0, o⟩).length := by rw [List.length_set, List.length_set, HLL.out, HN3.out.1]; simp
  have hmay : mayL ((L.set 0 ⟨6, 0, x⟩).set (n - 1) ⟨1, 0, o⟩) = false := by
    rw [HLL.out, List.set_cons_zero, show n - 1 = (mid.length + 1) + 1 from by have := HN3.out.1; omega, List.set_cons_succ, List.set_cons_succ]
    exact may_desc _ _ _ (.inl HA.out)
  have hput := ace_put3 (ace_put3 HR.out 0 (by omega) 6 0 x) (n - 1) (by omega) 1 0 o
  simp only [Nat.zero_mul, Nat.zero_add] at hput
  have HP := Aside0.mk hput
  have HLM := Aside0.mk (And.intro hlen hmay)
  clear hlen hmay hput
  have HBW := Aside0.mk ((below_alloc (below_set (below_set (below_set (below_set (below_set (below_set HB1.out hgb) hgb) hgb) hgb) hgb) hgb) _ : Below w.heap.size w (((((((w1.setCell ⟨g, 0, none⟩ (.int .i64 6)).setCell ⟨g, 1, none⟩ (.int .i64 0)).setCell ⟨g, 2, none⟩ (.int .i64 x)).setCell ⟨g, (n - 1) * 3, none⟩ (.int .i64 1)).setCell ⟨g, (n - 1) * 3 + 1, none⟩ (.int .i64 0)).setCell ⟨g, (n - 1) * 3 + 2, none⟩ (.int .i64 o)).alloc (.cells #[.int .i64 1, .int .i64 0, .int .i64 o] 27))))
  have HCW := Aside0.mk (Kd.C_below (hlen_C HP.out HLM.out.1) (below_alloc (Below.refl _ _) (.cells #[.int .i64 1, .int .i64 0, .int .i64 o] 27)))
  have HMW := Aside0.mk (HLM.out)
  go_wp2_with (first
    | (go_at_call 9; refine (parse_none t HPN.out.1 HPN.out.2 _ (HG.out.below (below_alloc HBW.out _))).mono ?_; rintro e w2 ⟨rfl, hb2⟩)
    | (go_at_call 10; refine (may_no _ _ _ _ _ HMW.out.1 (Kd.C_below HCW.out (below_next (below_alloc (Below.refl _ _) _) hb2)) (by assumption) (by omega) HMW.out.2).mono ?_; rintro e w3 ⟨rfl, hb3⟩)
    | (go_at_call 11; refine (awake_any _ (HG.out.below (below_next (below_next (below_alloc HBW.out _) hb2) hb3))).mono ?_; rintro e w4 ⟨rfl, hb4⟩))
  all_goals
    go_ret
    exact ⟨rfl, below_next (below_next (below_next (below_alloc HBW.out _) hb2) hb3) hb4⟩
set_option maxHeartbeats 2000000 in
set_option maxRecDepth 100000 in
theorem refuses_walk3 (A : Option Addr) (c : Nat) (ns : List Int) (m k : Int) (w : World) (hG : Good w) (hN : ReadsInt w .u8 A ns.length ns) (hb : ∀ x ∈ ns, 0 ≤ x ∧ x ≤ 255) (hc : ns.length ≤ c) (h0 : 0 ≤ m ∧ m ≤ 65535) (h1 : 0 ≤ k ∧ k ≤ 255) (hk : k % 6 = 3) :
    Calls Tryd.prog 3 #[.slice A ns.length c, .int .u16 m, .int .u8 k] w fun e w' => e = .returned (.bool true) ∧ Below w.heap.size w w' := by
  have HG := Aside0.mk hG
  clear hG
  go_enter Tryd.func3, Tryd.ntmps3
  go_wp2_with fail
  have hm := make_any A c ns (m % 512) w hN hb hc (by omega)
  refine hm.mono ?_
  rintro e w1 ⟨v, rfl, hR, hb1⟩
  obtain ⟨o, x, a, mid, hL, ha, hmid⟩ := make_shape ns (m % 512)
  rw [hL] at hR
  obtain ⟨n, hn⟩ : ∃ n, n = mid.length + 3 := ⟨_, rfl⟩
  have hlen : (⟨1, 0, o⟩ :: a :: (mid ++ [⟨6, 0, x⟩]) : List Ace).length = n := by simp; omega
  obtain ⟨L, hLL⟩ : ∃ L : List Ace, L = ⟨1, 0, o⟩ :: a :: (mid ++ [⟨6, 0, x⟩]) := ⟨_, rfl⟩
  rw [← hLL] at hR hlen
  obtain ⟨g, cap, rfl, hgb, hgl, cells, hcells⟩ := Kd.R_form hR (by omega)
  rw [hlen] at hR
  obtain ⟨hnl, hcap, hC1⟩ := Kd.R_reads' hR
  clear hnl
  rw [hlen] at hC1
  obtain ⟨ad1, e1, p0, p1, p2⟩ := at_T27 hC1 0 (by omega) (by omega)
  obtain ⟨ad2, e2, q0, q1, q2⟩ := at_T27 hC1 ((n : Int) - 1) (by omega) (by omega)
  obtain rfl := Option.some.inj e1
  obtain rfl := Option.some.inj e2
  have hx0 : rd_T27 L 0 = ⟨1, 0, o⟩ := by rw [hLL]; rfl
  have hxn : rd_T27 L ((n : Int) - 1) = ⟨6, 0, x⟩ := by
    have e : ((n : Int) - 1).toNat = mid.length + 2 := by omega
    rw [hLL]
    unfold rd_T27
    rw [e]
    simp
  have hn1 : ((n : Int) - 1).toNat = n - 1 := by omega
  rw [hx0] at p0 p1 p2
  rw [hxn, hn1] at q0 q1 q2
  simp only [add_plain, Int.toNat_zero, Nat.zero_mul, Nat.zero_add] at p0 p1 p2 q0 q1 q2
  have ff := fun j => blk_frozen hcells j
  have f0 := ff 0
  have f1 := ff 1
  have f2 := ff 2
  have fq0 := ff ((n - 1) * 3)
  have fq1 := ff ((n - 1) * 3 + 1)
  have fq2 := ff ((n - 1) * 3 + 2)
  rw [hlen]
  have HR := Aside0.mk hR
  have HB1 := Aside0.mk hb1
  have HLL := Aside0.mk hLL
  have HC1 := Aside0.mk hC1
  have HA := Aside0.mk ha
  have HN3 := Aside0.mk (And.intro hn hmid)
  have hn3 : 3 ≤ n := by omega
  have hn20 : n ≤ 20 := by omega
  obtain ⟨t, ht, hpn, htl⟩ := bad_at (k % 9).toNat (by omega)
  have hbad : ([Value.string ⟨#[]⟩, Value.string ⟨#[44]⟩, Value.string ⟨#[117, 58, 58, 114, 119, 120]⟩, Value.string ⟨#[117, 58, 58, 114, 119, 120, 44, 103, 58, 58, 114, 119, 120]⟩, Value.string ⟨#[117, 58, 58, 114, 119, 120, 44, 103, 58, 58, 114, 119, 120, 44, 111, 58, 58, 114, 119, 120, 44]⟩, Value.string ⟨#[117, 58, 58, 114, 119, 120, 120, 44, 103, 58, 58, 114, 45, 45, 44, 111, 58, 58, 114, 45, 45]⟩, Value.string ⟨#[117, 58, 48, 49, 58, 114, 119, 120]⟩, Value.string ⟨#[117, 58, 58, 114, 119, 120, 44, 117, 58, 53, 58, 114, 45, 45, 44, 103, 58, 58, 114, 45, 45, 44, 111, 58, 58, 114, 45, 45]⟩, Value.string ⟨#[117, 58, 58, 114, 119, 120, 44, 103, 58, 58, 114, 45, 45, 44, 109, 58, 58, 114, 119, 120, 44, 111, 58, 58, 114, 45, 45]⟩] : List Value)[(k % 9).toNat]? = some (.string (mkS t)) := by
    have h := congrArg (Option.map fun s => Value.string (mkS s)) ht
    rw [← List.getElem?_map] at h
    exact h
  have HPN := Aside0.mk (And.intro hpn htl)
  clear ht hpn htl
  clear hR hb1 hLL hC1 ha hm hn hmid hb hN hx0 hxn hL e1 e2 hcells ff hlen
  have hlen : ([⟨1, 0, o⟩] ++ L : List Ace).length = n + 1 := by rw [HLL.out, HN3.out.1]; simp
  have hmay : mayL ([⟨1, 0, o⟩] ++ L) = false := by
    rw [HLL.out]
    exact may_desc ⟨1, 0, o⟩ ⟨1, 0, o⟩ _ (.inr ⟨rfl, Int.le_refl _⟩)
  have HLM := Aside0.mk (And.intro hlen hmay)
  clear hlen hmay
  go_wp2_with (first
    | (with_reducible refine gate_dst (N := 61) rfl ?_); refine ace_append rfl (.tmp 59) (.tmp 60) rfl (w0 := w1) w1.heap.size _ [⟨1, 0, o⟩] L (some ⟨g, 0, none⟩) n cap rfl rfl (ace_lit1 (heap_alloc_new _ _) (Nat.le_refl _)) (Kd.C_below HC1.out (below_alloc (Below.refl _ _) _)) (below_alloc (Below.refl _ _) _) (by simp) (by simp; omega) ?_; intro vx wx hRx hBx; obtain ⟨Ax, cx, rfl, hcx, hCx⟩ := Kd.R_reads hRx; rw [HLM.out.1] at hcx hCx ⊢
    | (go_at_call 9; refine (parse_none t HPN.out.1 HPN.out.2 _ (HG.out.below (below_alloc (below_next HB1.out hBx) _))).mono ?_; rintro e w2 ⟨rfl, hb2⟩)
    | (go_at_call 10; refine (may_no _ _ _ _ _ HLM.out.1.symm (Kd.C_below hCx (below_next (below_alloc (Below.refl _ _) _) hb2)) (by assumption) (by omega) HLM.out.2).mono ?_; rintro e w3 ⟨rfl, hb3⟩)
    | (go_at_call 11; refine (awake_any _ (HG.out.below (below_next (below_next (below_alloc (below_next HB1.out hBx) _) hb2) hb3))).mono ?_; rintro e w4 ⟨rfl, hb4⟩))
  all_goals
    go_ret
    exact ⟨rfl, below_next (below_next (below_next (below_alloc (below_next HB1.out hBx) _) hb2) hb3) hb4⟩
set_option maxHeartbeats 2000000 in
set_option maxRecDepth 100000 in
theorem refuses_walk4 (A : Option Addr) (c : Nat) (ns : List Int) (m k : Int) (w : World) (hG : Good w) (hN : ReadsInt w .u8 A ns.length ns) (hb : ∀ x ∈ ns, 0 ≤ x ∧ x ≤ 255) (hc : ns.length ≤ c) (h0 : 0 ≤ m ∧ m ≤ 65535) (h1 : 0 ≤ k ∧ k ≤ 255) (hk : k % 6 = 4) :
    Calls Tryd.prog 3 #[.slice A ns.length c, .int .u16 m, .int .u8 k] w fun e w' => e = .returned (.bool true) ∧ Below w.heap.size w w' := by
  have HG := Aside0.mk hG
  clear hG
  go_enter Tryd.func3, Tryd.ntmps3
  go_wp2_with fail
  have hm := make_any A c ns (m % 512) w hN hb hc (by omega)
  refine hm.mono ?_
  rintro e w1 ⟨v, rfl, hR, hb1⟩
  obtain ⟨o, x, a, mid, hL, ha, hmid⟩ := make_shape ns (m % 512)
  rw [hL] at hR
  obtain ⟨n, hn⟩ : ∃ n, n = mid.length + 3 := ⟨_, rfl⟩
  have hlen : (⟨1, 0, o⟩ :: a :: (mid ++ [⟨6, 0, x⟩]) : List Ace).length = n := by simp; omega
  obtain ⟨L, hLL⟩ : ∃ L : List Ace, L = ⟨1, 0, o⟩ :: a :: (mid ++ [⟨6, 0, x⟩]) := ⟨_, rfl⟩
  rw [← hLL] at hR hlen
  obtain ⟨g, cap, rfl, hgb, hgl, cells, hcells⟩ := Kd.R_form hR (by omega)
  rw [hlen] at hR
  obtain ⟨hnl, hcap, hC1⟩ := Kd.R_reads' hR
  clear hnl
  rw [hlen] at hC1
  obtain ⟨ad1, e1, p0, p1, p2⟩ := at_T27 hC1 0 (by omega) (by omega)
  obtain ⟨ad2, e2, q0, q1, q2⟩ := at_T27 hC1 ((n : Int) - 1) (by omega) (by omega)
  obtain rfl := Option.some.inj e1
  obtain rfl := Option.some.inj e2
  have hx0 : rd_T27 L 0 = ⟨1, 0, o⟩ := by rw [hLL]; rfl
  have hxn : rd_T27 L ((n : Int) - 1) = ⟨6, 0, x⟩ := by
    have e : ((n : Int) - 1).toNat = mid.length + 2 := by omega
    rw [hLL]
    unfold rd_T27
    rw [e]
    simp
  have hn1 : ((n : Int) - 1).toNat = n - 1 := by omega
  rw [hx0] at p0 p1 p2
  rw [hxn, hn1] at q0 q1 q2
  simp only [add_plain, Int.toNat_zero, Nat.zero_mul, Nat.zero_add] at p0 p1 p2 q0 q1 q2
  have ff := fun j => blk_frozen hcells j
  have f0 := ff 0
  have f1 := ff 1
  have f2 := ff 2
  have fq0 := ff ((n - 1) * 3)
  have fq1 := ff ((n - 1) * 3 + 1)
  have fq2 := ff ((n - 1) * 3 + 2)
  rw [hlen]
  have HR := Aside0.mk hR
  have HB1 := Aside0.mk hb1
  have HLL := Aside0.mk hLL
  have HC1 := Aside0.mk hC1
  have HA := Aside0.mk ha
  have HN3 := Aside0.mk (And.intro hn hmid)
  have hn3 : 3 ≤ n := by omega
  have hn20 : n ≤ 20 := by omega
  obtain ⟨t, ht, hpn, htl⟩ := bad_at (k % 9).toNat (by omega)
  have hbad : ([Value.string ⟨#[]⟩, Value.string ⟨#[44]⟩, Value.string ⟨#[117, 58, 58, 114, 119, 120]⟩, Value.string ⟨#[117, 58, 58, 114, 119, 120, 44, 103, 58, 58, 114, 119, 120]⟩, Value.string ⟨#[117, 58, 58, 114, 119, 120, 44, 103, 58, 58, 114, 119, 120, 44, 111, 58, 58, 114, 119, 120, 44]⟩, Value.string ⟨#[117, 58, 58, 114, 119, 120, 120, 44, 103, 58, 58, 114, 45, 45, 44, 111, 58, 58, 114, 45, 45]⟩, Value.string ⟨#[117, 58, 48, 49, 58, 114, 119, 120]⟩, Value.string ⟨#[117, 58, 58, 114, 119, 120, 44, 117, 58, 53, 58, 114, 45, 45, 44, 103, 58, 58, 114, 45, 45, 44, 111, 58, 58, 114, 45, 45]⟩, Value.string ⟨#[117, 58, 58, 114, 119, 120, 44, 103, 58, 58, 114, 45, 45, 44, 109, 58, 58, 114, 119, 120, 44, 111, 58, 58, 114, 45, 45]⟩] : List Value)[(k % 9).toNat]? = some (.string (mkS t)) := by
    have h := congrArg (Option.map fun s => Value.string (mkS s)) ht
    rw [← List.getElem?_map] at h
    exact h
  have HPN := Aside0.mk (And.intro hpn htl)
  clear ht hpn htl
  clear hR hb1 hLL hC1 ha hm hn hmid hb hN hx0 hxn hL e1 e2 hcells ff hlen
  have hlen : (L ++ [⟨7, 0, 0⟩] : List Ace).length = n + 1 := by rw [HLL.out, HN3.out.1]; simp
  have hmay : mayL (L ++ [⟨7, 0, 0⟩]) = false := may_elem (a := ⟨7, 0, 0⟩) (by simp) (by decide)
  have HLM := Aside0.mk (And.intro hlen hmay)
  have hLn : L.length = n := by rw [HLL.out, HN3.out.1]; simp
  have HLN := Aside0.mk hLn
  clear hlen hmay hLn
  go_wp2_with (first
    | (with_reducible refine gate_dst (N := 67) rfl ?_); refine ace_append rfl (.tmp 64) (.tmp 66) rfl (w0 := w) w.heap.size _ L [⟨7, 0, 0⟩] _ _ _ rfl rfl (Kd.R_below HR.out (below_alloc (Below.refl _ _) _)) (ace_one (heap_alloc_new _ _)) (below_alloc HB1.out _) (by have := HB1.out.size; simp; omega) (by rw [HLN.out]; omega) ?_; intro vx wx hRx hBx; obtain ⟨Ax, cx, rfl, hcx, hCx⟩ := Kd.R_reads hRx; rw [HLM.out.1] at hcx hCx ⊢
    | (go_at_call 9; refine (parse_none t HPN.out.1 HPN.out.2 _ (HG.out.below (below_alloc (hBx) _))).mono ?_; rintro e w2 ⟨rfl, hb2⟩)
    | (go_at_call 10; refine (may_no _ _ _ _ _ HLM.out.1.symm (Kd.C_below hCx (below_next (below_alloc (Below.refl _ _) _) hb2)) (by assumption) (by omega) HLM.out.2).mono ?_; rintro e w3 ⟨rfl, hb3⟩)
    | (go_at_call 11; refine (awake_any _ (HG.out.below (below_next (below_next (below_alloc (hBx) _) hb2) hb3))).mono ?_; rintro e w4 ⟨rfl, hb4⟩))
  all_goals
    go_ret
    exact ⟨rfl, below_next (below_next (below_next (below_alloc (hBx) _) hb2) hb3) hb4⟩
theorem refuses_walk (A : Option Addr) (c : Nat) (ns : List Int) (m k : Int) (w : World) (hG : Good w) (hN : ReadsInt w .u8 A ns.length ns) (hb : ∀ x ∈ ns, 0 ≤ x ∧ x ≤ 255) (hc : ns.length ≤ c) (h0 : 0 ≤ m ∧ m ≤ 65535) (h1 : 0 ≤ k ∧ k ≤ 255) :
    Calls Tryd.prog 3 #[.slice A ns.length c, .int .u16 m, .int .u8 k] w fun e w' => e = .returned (.bool true) ∧ Below w.heap.size w w' := by
  have hk : k % 6 = 0 ∨ k % 6 = 1 ∨ k % 6 = 2 ∨ k % 6 = 3 ∨ k % 6 = 4 ∨ k % 6 = 5 := by omega
  rcases hk with hk | hk | hk | hk | hk | hk
  · exact refuses_walk0 A c ns m k w hG hN hb hc h0 h1 hk
  · exact refuses_walk1 A c ns m k w hG hN hb hc h0 h1 hk
  · exact refuses_walk2 A c ns m k w hG hN hb hc h0 h1 hk
  · exact refuses_walk3 A c ns m k w hG hN hb hc h0 h1 hk
  · exact refuses_walk4 A c ns m k w hG hN hb hc h0 h1 hk
  · exact refuses_walk5 A c ns m k w hG hN hb hc h0 h1 hk
/-- As the row hands it over. -/
theorem refuses_row (A : Option Addr) (len c : Nat) (zs : List Int) (m k : Int) (w : World) (hG : Good w)
    (hr : (A = none ∧ len = 0 ∧ c = 0 ∧ zs = []) ∨ ∃ x, A = some x ∧ len ≤ c ∧ c ≤ maxLen ∧ zs.length = c ∧ (∀ i, i < zs.length → w.cell? (x.add i) = some (.int .u8 (zs.getD i 0))) ∧ ∀ n ∈ zs, (Lit.int .u8 n).wf = true)
    (h0 : 0 ≤ m ∧ m ≤ 65535) (h1 : 0 ≤ k ∧ k ≤ 255) :
    Calls Tryd.prog 3 #[.slice A len c, .int .u16 m, .int .u8 k] w fun e w' => e = .returned (.bool true) ∧ Below w.heap.size w w' := by
  rcases hr with ⟨rfl, rfl, rfl, rfl⟩ | ⟨x, rfl, hlc, hcm, hzl, hcell, hwf⟩
  · exact refuses_walk none 0 [] m k w hG ⟨rfl, by decide, fun h => absurd h (by decide)⟩ (by simp) (Nat.le_refl _) h0 h1
  · have hl : (zs.take len).length = len := by rw [List.length_take]; omega
    have hw := refuses_walk (some x) c (zs.take len) m k w hG ⟨rfl, by rw [hl]; unfold maxLen at hcm; omega, fun _ => ⟨x, rfl, fun j hj => by
      rw [hl] at hj
      rw [hcell j (by omega), List.getD_eq_getElem?_getD, List.getD_eq_getElem?_getD, List.getElem?_take_of_lt hj]⟩⟩ (fun n hn => wf_u8 (hwf n (List.mem_of_mem_take hn))) (by rw [hl]; exact hlc) h0 h1
    rw [hl] at hw
    exact hw
end Go.Proofs.YtejgnnhmeolphaaDoor
