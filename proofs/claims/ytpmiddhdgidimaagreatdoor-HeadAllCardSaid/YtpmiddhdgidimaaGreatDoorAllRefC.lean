/- The reference of a header: its bytes, and what bytes say. Conditions: those of each theorem. -/
import Derived.Test.YtpmiddhdgidimaaGreatDoorBase
import Derived.Test.YtpmiddhdgidimaaGreatDoorAllRefA
import Derived.Test.YtpmiddhdgidimaaGreatDoorAllRefB
import Derived.Test.YtpmiddhdgidimaaGreatDoorHeadGetA
set_option linter.unusedVariables false
set_option linter.unusedSimpArgs false
namespace Go.Proofs.YtpmiddhdgidimaaGreatDoor
open Go.RowKit

section
variable {P : Program} {ops : Array Oper} {Q : Exit → Act → World → Prop}

def undone (n : Nat) (listed : Array Bool) : Nat := (List.range n).countP (fun i => !listed.getD i true)
theorem countP_less {α : Type} (p q : α → Bool) (i : α) : ∀ l : List α, i ∈ l → (∀ x, q x = true → p x = true) → p i = true → q i = false → l.countP q < l.countP p
  | [], h, _, _, _ => by cases h
  | x :: l, h, hq, hp, hn => by
    have hle : l.countP q ≤ l.countP p := List.countP_mono_left (fun x _ => hq x)
    rw [List.countP_cons, List.countP_cons]
    rcases List.mem_cons.1 h with rfl | h
    · rw [hp, hn]; simp; omega
    · have := countP_less p q i l h hq hp hn
      by_cases hx : q x = true
      · rw [if_pos hx, if_pos (hq x hx)]; omega
      · rw [if_neg hx]; split <;> omega
theorem getD_setT (listed : Array Bool) (i j : Nat) (d : Bool) (hi : i < listed.size) : (listed.setIfInBounds i true).getD j d = if j = i then true else listed.getD j d := by
  simp only [Array.getD_eq_getD_getElem?, Array.getElem?_setIfInBounds]
  by_cases h : i = j
  · subst h; simp [hi]
  · rw [if_neg h, if_neg (Ne.symm h)]
theorem undone_set {n i : Nat} {listed : Array Bool} (hs : listed.size = n) (hi : i < n) (h : listed.getD i true = false) : undone n (listed.setIfInBounds i true) < undone n listed := by
  unfold undone
  refine countP_less _ _ i _ (List.mem_range.2 hi) ?_ (by simp [h]) ?_
  · intro x hx
    rw [getD_setT _ _ _ _ (by omega)] at hx
    split at hx
    · simp at hx
    · exact hx
  · rw [getD_setT _ _ _ _ (by omega), if_pos rfl]; rfl
theorem wpAny_inv (I : Array Bool → Act → World → Prop)
    (hs : ∀ listed a w i, listed.size = ops.size → I listed a w → i ∈ Region.ready .any ops listed → wpOp P ops Q i (fun a' w' => I (listed.setIfInBounds i true) a' w') a w)
    (he : ∀ listed a w, listed.size = ops.size → Region.ready .any ops listed = [] → I listed a w → Q .normal a w) :
    ∀ fuel listed a w, listed.size = ops.size → undone ops.size listed ≤ fuel → I listed a w → wpAny P .any ops Q fuel listed a w := by
  have hmem : ∀ (listed : Array Bool) i, i ∈ Region.ready .any ops listed → i < ops.size ∧ listed.getD i true = false := by
    intro listed i hi
    obtain ⟨h1, o, h2, _⟩ := mem_ready.1 hi
    refine ⟨?_, h1⟩
    by_cases h : i < ops.size
    · exact h
    · rw [Array.getElem?_eq_none (by omega)] at h2; cases h2
  intro fuel
  induction fuel with
  | zero =>
    intro listed a w hsz hu hI
    have hr : Region.ready .any ops listed = [] := by
      cases hr : Region.ready .any ops listed with
      | nil => rfl
      | cons i l =>
        obtain ⟨h1, h2⟩ := hmem listed i (by rw [hr]; exact List.mem_cons_self ..)
        have := undone_set hsz h1 h2
        omega
    exact ⟨hr, he listed a w hsz hr hI⟩
  | succ fuel ih =>
    intro listed a w hsz hu hI
    refine ⟨fun hr => he listed a w hsz hr hI, fun i hi => ?_⟩
    obtain ⟨h1, h2⟩ := hmem listed i hi
    have := undone_set hsz h1 h2
    exact wpOp_mono (fun a' w' h => ih _ a' w' (by simp [hsz]) (by omega) h) (hs listed a w i hsz hI hi)

/- The frame: what has come up stands in its own temporary. -/
def dstOf (ops : Array Oper) (j : Nat) : Option Tmp := (ops[j]?).bind (·.dst)
def upd {α : Type} (f : Nat → α) (i : Nat) (v : α) : Nat → α := fun j => if j = i then v else f j
structure Fr (ops : Array Oper) (a0 : Act) (L : Nat → Bool) (vs : Nat → Value) (a : Act) : Prop where
  size : a.tmps.size = a0.tmps.size
  defers : a.defers = a0.defers
  hit : ∀ j d, L j = true → dstOf ops j = some d → a.tmps[d]? = some (vs j)
  miss : ∀ t, (∀ j, L j = true → dstOf ops j ≠ some t) → a.tmps[t]? = a0.tmps[t]?
/-- Each waits for earlier ones alone, temporaries apart and in the frame. -/
def plainOps (ops : Array Oper) (n : Nat) : Bool :=
  (List.range ops.size).all fun i => match ops[i]? with
    | some o => (o.after.all fun e => decide (e.on < i)) && (match o.dst with | some d => decide (d < n) && ((List.range i).all fun j => dstOf ops j != some d) | none => true)
    | none => false
theorem plain_at {n i : Nat} {o : Oper} (h : plainOps ops n = true) (ho : ops[i]? = some o) : True ∧ (∀ e ∈ o.after, e.on < i) ∧ (∀ d, o.dst = some d → d < n ∧ ∀ j, j < i → dstOf ops j ≠ some d) := by
  have hi : i < ops.size := by
    by_cases h : i < ops.size
    · exact h
    · rw [Array.getElem?_eq_none (by omega)] at ho; cases ho
  have := List.all_eq_true.1 h i (List.mem_range.2 hi)
  rw [ho] at this
  simp only [Bool.and_eq_true] at this
  obtain ⟨h2, h3⟩ := this
  refine ⟨trivial, fun e he => ?_, fun d hd => ?_⟩
  · obtain ⟨k, hk, rfl⟩ := Array.mem_iff_getElem.1 he
    have := Array.all_eq_true.1 h2 k hk
    simpa using this
  · rw [hd] at h3
    simp only [Bool.and_eq_true, decide_eq_true_eq] at h3
    refine ⟨h3.1, fun j hj => ?_⟩
    have := List.all_eq_true.1 h3.2 j (List.mem_range.2 hj)
    simpa using this
theorem dst_apart {n i j : Nat} {d : Tmp} (h : plainOps ops n = true) (hi : dstOf ops i = some d) (hj : dstOf ops j = some d) : i = j := by
  have key : ∀ i j, i < j → dstOf ops i = some d → dstOf ops j = some d → False := by
    intro i j hlt hi hj
    cases ho : ops[j]? with
    | none => unfold dstOf at hj; rw [ho] at hj; cases hj
    | some o =>
      have hd : o.dst = some d := by unfold dstOf at hj; rw [ho] at hj; exact hj
      exact ((plain_at h ho).2.2 d hd).2 i hlt hi
  rcases Nat.lt_trichotomy i j with hh | hh | hh
  · exact (key i j hh hi hj).elim
  · exact hh
  · exact (key j i hh hj hi).elim
theorem put_get (a : Act) (dst : Option Tmp) (v : Value) (t : Nat) : (a.put dst v).tmps[t]? = match dst with | some d => if d = t then (if d < a.tmps.size then some v else none) else a.tmps[t]? | none => a.tmps[t]? := by
  cases dst with
  | none => rfl
  | some d => simp [Act.put, Array.getElem?_setIfInBounds]
theorem Fr.put {a0 a : Act} {L : Nat → Bool} {vs : Nat → Value} {n i : Nat} {o : Oper} (h : plainOps ops n = true) (hn : a0.tmps.size = n) (ho : ops[i]? = some o) (hL : L i = false) (hF : Fr ops a0 L vs a) (v : Value) :
    Fr ops a0 (upd L i true) (upd vs i v) (a.put o.dst v) := by
  have hdi : dstOf ops i = o.dst := by unfold dstOf; rw [ho]; rfl
  refine ⟨?_, ?_, ?_, ?_⟩
  · rw [← hF.size]; cases o.dst <;> simp [Act.put]
  · rw [← hF.defers]; cases o.dst <;> rfl
  · intro j d hj hd
    rw [put_get]
    by_cases hji : j = i
    · subst hji
      rw [hdi] at hd
      rw [hd]
      simp only [if_true]
      rw [if_pos (by rw [hF.size, hn]; exact ((plain_at h ho).2.2 d hd).1)]
      simp [upd]
    · have h2 : L j = true := by unfold upd at hj; rw [if_neg hji] at hj; exact hj
      have hne : o.dst ≠ some d := fun he => hji (dst_apart h hd (hdi.trans he))
      have e : upd vs i v j = vs j := if_neg hji
      rw [e, ← hF.hit j d h2 hd]
      cases ho2 : o.dst with
      | none => rfl
      | some d' =>
        have : ¬ d' = d := fun e => hne (by rw [ho2, e])
        simp only [if_neg this]
  · intro t ht
    rw [put_get]
    have h2 : o.dst ≠ some t := by rw [← hdi]; exact ht i (by simp [upd])
    have h3 := hF.miss t (fun j hj => ht j (by unfold upd; split <;> simp [hj]))
    rw [← h3]
    cases ho2 : o.dst with
    | none => rfl
    | some d' =>
      have : ¬ d' = t := fun e => h2 (by rw [ho2, e])
      simp only [if_neg this]
theorem Fr.start {a0 : Act} {vs : Nat → Value} : Fr ops a0 (fun _ => false) vs a0 := ⟨rfl, rfl, fun _ _ h => (nomatch h), fun _ _ => rfl⟩
theorem Fr.unique {a0 a a' : Act} {L : Nat → Bool} {vs : Nat → Value} (h : Fr ops a0 L vs a) (h' : Fr ops a0 L vs a') : a = a' := by
  have ht : a.tmps = a'.tmps := by
    apply Array.ext_getElem?
    intro t
    by_cases hx : ∃ j, L j = true ∧ dstOf ops j = some t
    · obtain ⟨j, h1, h2⟩ := hx
      rw [h.hit j t h1 h2, h'.hit j t h1 h2]
    · have : ∀ j, L j = true → dstOf ops j ≠ some t := fun j h1 h2 => hx ⟨j, h1, h2⟩
      rw [h.miss t this, h'.miss t this]
  have hd := h.defers.trans h'.defers.symm
  cases a; cases a'
  simp only at ht hd
  rw [ht, hd]
/-- The frame when all has come up. -/
def finTo (ops : Array Oper) (vs : Nat → Value) (a : Act) : Nat → Act
  | 0 => a
  | k + 1 => (finTo ops vs a k).put (dstOf ops k) (vs k)
theorem Fr.fin {a0 : Act} {vs : Nat → Value} {n : Nat} (h : plainOps ops n = true) (hn : a0.tmps.size = n) : ∀ k, k ≤ ops.size → Fr ops a0 (fun j => decide (j < k)) vs (finTo ops vs a0 k)
  | 0, _ => by
    have : (fun j : Nat => decide (j < 0)) = fun _ => false := by funext j; simp
    rw [this]
    exact Fr.start
  | k + 1, hk => by
    have ih := Fr.fin (vs := vs) h hn k (by omega)
    have ho : ops[k]? = some ops[k] := Array.getElem?_eq_getElem (by omega)
    have := ih.put h hn ho (by simp) (vs k)
    have e1 : upd (fun j => decide (j < k)) k true = fun j => decide (j < k + 1) := by
      funext j
      unfold upd
      by_cases hj : j = k
      · rw [if_pos hj]; simp [hj]
      · rw [if_neg hj]; exact decide_eq_decide.2 (by omega)
    have e2 : upd vs k (vs k) = vs := by
      funext j
      unfold upd
      split
      · rename_i h; rw [h]
      · rfl
    rw [e1, e2] at this
    have e3 : (ops[k]).dst = dstOf ops k := by unfold dstOf; rw [ho]; rfl
    rw [e3] at this
    exact this
/-- Every guard is a value that is known, and lets the operation come. -/
def guardsOk (ops : Array Oper) (c : Nat → Option Value) : Bool :=
  (List.range ops.size).all fun i => match ops[i]? with
    | some o => match o.guard with
      | none => true
      | some (g, want) => (o.after.any fun e => e.on == g && Region.binds .any e) && (dstOf ops g).isSome && (match c g with | some (.bool b) => b == want | _ => false)
    | none => false
theorem guard_wanted {c : Nat → Option Value} {i : Nat} {o : Oper} {L : Nat → Bool} {vs : Nat → Value} {a0 a : Act} (hg : guardsOk ops c = true) (ho : ops[i]? = some o) (hA : ∀ e ∈ o.after, Region.binds .any e = true → L e.on = true) (hF : Fr ops a0 L vs a) (hv : ∀ j v, c j = some v → L j = true → vs j = v) : Region.wanted o (yielded ops a.tmps) = true := by
  have hi : i < ops.size := by
    by_cases h : i < ops.size
    · exact h
    · rw [Array.getElem?_eq_none (by omega)] at ho; cases ho
  have h := List.all_eq_true.1 hg i (List.mem_range.2 hi)
  rw [ho] at h
  simp only at h
  unfold Region.wanted
  cases hgd : o.guard with
  | none => rfl
  | some gw =>
    obtain ⟨g, want⟩ := gw
    rw [hgd] at h
    simp only [Bool.and_eq_true] at h
    obtain ⟨⟨h1, h2⟩, h3⟩ := h
    obtain ⟨k, hk, h4⟩ := Array.any_eq_true.1 h1
    simp only [Bool.and_eq_true, beq_iff_eq] at h4
    have hLg : L g = true := by rw [← h4.1]; exact hA _ (Array.getElem_mem hk) h4.2
    obtain ⟨d, hd⟩ := Option.isSome_iff_exists.1 h2
    have ht := hF.hit g d hLg hd
    simp only
    cases hc : c g with
    | none => rw [hc] at h3; simp at h3
    | some v =>
      rw [hc] at h3
      cases v with
      | bool b =>
        rw [hv g _ hc hLg] at ht
        have hb : b = want := by simpa using h3
        subst hb
        unfold yielded
        have hd2 : (ops[g]?).bind (·.dst) = some d := hd
        rw [hd2]
        simp [ht]
      | _ => simp at h3
/-- Each operation once, in whatever world the invariant lets stand. -/
theorem wp_region_inv {id : Nat} {a : Act} {w : World} (hm : P.follows .mixedOrders = true) (hok : plainOps ops a.tmps.size = true)
    (G : (Nat → Bool) → (Nat → Value) → World → Prop) (vs0 : Nat → Value) (h0 : G (fun _ => false) vs0 w.drew)
    (hwt : ∀ (i : Nat) (o : Oper) (L : Nat → Bool) (vs : Nat → Value) (a' : Act) (w' : World), ops[i]? = some o → (∀ e ∈ o.after, Region.binds .any e = true → L e.on = true) → Fr ops a L vs a' → G L vs w' → Region.wanted o (yielded ops a'.tmps) = true)
    (hs : ∀ i o L vs a' w', ops[i]? = some o → L i = false → (∀ e ∈ o.after, Region.binds .any e = true → L e.on = true) → Fr ops a L vs a' → G L vs w' →
      ∀ K : Act → World → Prop, (∀ v w'', G (upd L i true) (upd vs i v) w'' → K (a'.put o.dst v) w'') → Oper.wp P o a' w' K Q)
    (he : ∀ vs w', G (fun j => decide (j < ops.size)) vs w' → Q .normal (finTo ops vs a ops.size) w') :
    (Code.region id ops true).wp P Q a w := by
  refine wp_region_any hm ?_
  refine wpAny_inv (fun listed a' w' => ∃ vs, Fr ops a (fun j => listed.getD j false) vs a' ∧ G (fun j => listed.getD j false) vs w') ?_ ?_ _ _ _ _ (by simp) ?_ ?_
  · rintro listed a' w' i hsz ⟨vs, hF, hG⟩ hi
    obtain ⟨h1, o, h2, h3⟩ := mem_ready.1 hi
    have hlt : i < ops.size := by
      by_cases h : i < ops.size
      · exact h
      · rw [Array.getElem?_eq_none (by omega)] at h2; cases h2
    have hLi : listed.getD i false = false := by
      simp only [Array.getD_eq_getD_getElem?] at h1 ⊢
      rw [Array.getElem?_eq_getElem (by omega)] at h1 ⊢
      exact h1
    have hup : (fun j => (listed.setIfInBounds i true).getD j false) = upd (fun j => listed.getD j false) i true := by
      funext j
      rw [getD_setT _ _ _ _ (by omega)]
      rfl
    unfold wpOp
    simp only [h2]
    rw [if_pos (hwt i o _ vs a' w' h2 h3 hF hG)]
    left
    refine hs i o _ vs a' w' h2 hLi h3 hF hG _ (fun v w'' hG2 => ?_)
    refine ⟨upd vs i v, ?_, ?_⟩
    · rw [hup]; exact hF.put hok rfl h2 hLi v
    · rw [hup]; exact hG2
  · rintro listed a' w' hsz hr ⟨vs, hF, hG⟩
    have hall : ∀ i, i < ops.size → listed.getD i false = true := by
      intro i
      induction i using Nat.strongRecOn with
      | ind i ih =>
        intro hi
        cases hl : listed.getD i false with
        | true => rfl
        | false =>
          exfalso
          have ho : ops[i]? = some ops[i] := Array.getElem?_eq_getElem hi
          have : i ∈ Region.ready .any ops listed := by
            refine mem_ready.2 ⟨?_, _, ho, fun e he hb => ih e.on ((plain_at hok ho).2.1 e he) (Nat.lt_trans ((plain_at hok ho).2.1 e he) hi)⟩
            simp only [Array.getD_eq_getD_getElem?] at hl ⊢
            rw [Array.getElem?_eq_getElem (by omega)] at hl ⊢
            exact hl
          rw [hr] at this
          cases this
    have hL : (fun j => listed.getD j false) = fun j => decide (j < ops.size) := by
      funext j
      by_cases hj : j < ops.size
      · rw [hall j hj]; simp [hj]
      · simp only [Array.getD_eq_getD_getElem?]
        rw [Array.getElem?_eq_none (by omega)]
        simp; omega
    rw [hL] at hF hG
    have := hF.unique (Fr.fin (vs := vs) hok rfl ops.size (Nat.le_refl _))
    rw [this]
    exact he vs w' hG
  · unfold undone
    have := List.countP_le_length (p := fun i => !(Array.replicate ops.size false).getD i true) (l := List.range ops.size)
    simpa using this
  · have : (fun j => (Array.replicate ops.size false).getD j false) = fun _ => false := by
      funext j
      simp only [Array.getD_eq_getD_getElem?, Array.getElem?_replicate]
      split <;> rfl
    exact ⟨vs0, by rw [this]; exact Fr.start, by rw [this]; exact h0⟩
theorem Fr.old {a0 a : Act} {L : Nat → Bool} {vs : Nat → Value} {t : Tmp} {v : Value} (h : Fr ops a0 L vs a) (hv : a0.tmps[t]? = some v) (hc : ((List.range ops.size).all fun j => dstOf ops j != some t) = true) : a.tmps[t]? = some v := by
  rw [h.miss t, hv]
  intro j hj he
  by_cases hlt : j < ops.size
  · have := List.all_eq_true.1 hc j (List.mem_range.2 hlt)
    rw [he] at this
    simp at this
  · unfold dstOf at he
    rw [Array.getElem?_eq_none (by omega)] at he
    cases he

/- A list of operations, one after another. -/
inductive AllAt (C : Nat → Oper → Prop) : Nat → List Oper → Prop
  | nil {n : Nat} : AllAt C n []
  | cons {n : Nat} {o : Oper} {l : List Oper} (h : C n o) (hs : AllAt C (n + 1) l) : AllAt C n (o :: l)
theorem AllAt.at {C : Nat → Oper → Prop} {o : Oper} : ∀ {n i : Nat} {l : List Oper}, AllAt C n l → l[i]? = some o → C (n + i) o
  | n, i, [], _, hi => by simp at hi
  | n, 0, x :: l, .cons h _, hi => by
    simp only [List.getElem?_cons_zero, Option.some.injEq] at hi
    subst hi
    exact h
  | n, i + 1, x :: l, .cons _ hs, hi => by
    simp only [List.getElem?_cons_succ] at hi
    have := AllAt.at hs hi
    rwa [show n + 1 + i = n + (i + 1) by omega] at this
/- Which value each operation leaves ('c'), or what it makes ('mk'); the world only grows. -/
structure Plan (w0 : World) (c : Nat → Option Value) (mk : Nat → World → Value → Prop) (L : Nat → Bool) (vs : Nat → Value) (w : World) : Prop where
  below : Below w0.heap.size w0 w
  val : ∀ j v, c j = some v → L j = true → vs j = v
  made : ∀ j, L j = true → mk j w (vs j)
theorem Plan.start {w0 : World} {c : Nat → Option Value} {mk : Nat → World → Value → Prop} {vs : Nat → Value} : Plan w0 c mk (fun _ => false) vs w0.drew :=
  ⟨(Below.refl _ _).drew, fun _ _ _ h => (nomatch h), fun _ h => (nomatch h)⟩
def Keeps (mk : Nat → World → Value → Prop) : Prop := ∀ j w w' v, Below w.heap.size w w' → mk j w v → mk j w' v
theorem Plan.next {w0 : World} {c : Nat → Option Value} {mk : Nat → World → Value → Prop} {L : Nat → Bool} {vs : Nat → Value} {w : World} (h : Plan w0 c mk L vs w) (hmk : Keeps mk) {i : Nat} {v : Value} {w' : World} (hv : ∀ u, c i = some u → v = u) (hm : mk i w' v) (hb : Below w.heap.size w w') :
    Plan w0 c mk (upd L i true) (upd vs i v) w' := by
  refine ⟨below_next h.below hb, fun j u hj hL => ?_, fun j hL => ?_⟩
  · by_cases hji : j = i
    · subst hji; rw [upd, if_pos rfl]; exact hv u hj
    · rw [upd, if_neg hji]; rw [upd, if_neg hji] at hL; exact h.val j u hj hL
  · by_cases hji : j = i
    · subst hji; rw [upd, if_pos rfl]; exact hm
    · rw [upd, if_neg hji]; rw [upd, if_neg hji] at hL; exact hmk j w w' _ hb (h.made j hL)
theorem Plan.next_val {w0 : World} {c : Nat → Option Value} {mk : Nat → World → Value → Prop} {L : Nat → Bool} {vs : Nat → Value} {w : World} (h : Plan w0 c mk L vs w) (hmk : Keeps mk) {i : Nat} {v : Value} {w' : World} (hc : c i = some v) (hm : mk i w' v) (hb : Below w.heap.size w w') :
    Plan w0 c mk (upd L i true) (upd vs i v) w' := h.next hmk (fun u hu => Option.some.inj (hc.symm.trans hu)) hm hb
theorem Plan.next_mk {w0 : World} {c : Nat → Option Value} {mk : Nat → World → Value → Prop} {L : Nat → Bool} {vs : Nat → Value} {w : World} (h : Plan w0 c mk L vs w) (hmk : Keeps mk) {i : Nat} {v : Value} {w' : World} (hc : c i = none) (hm : mk i w' v) (hb : Below w.heap.size w w') :
    Plan w0 c mk (upd L i true) (upd vs i v) w' := h.next hmk (fun u hu => (nomatch hc.symm.trans hu)) hm hb
theorem Plan.at {w0 : World} {c : Nat → Option Value} {mk : Nat → World → Value → Prop} {L : Nat → Bool} {vs : Nat → Value} {w : World} {a0 a : Act} (h : Plan w0 c mk L vs w) (hF : Fr ops a0 L vs a) (j d : Nat) {v : Value} (hL : L j = true) (hd : dstOf ops j = some d) (hc : c j = some v) : a.tmps[d]? = some v := by
  rw [hF.hit j d hL hd, h.val j v hc hL]
/-- The region, by its list. -/
theorem wp_region_plan {id : Nat} {a : Act} {w : World} (hm : P.follows .mixedOrders = true) (hok : plainOps ops a.tmps.size = true)
    (c : Nat → Option Value) (hgd : guardsOk ops c = true) (mk : Nat → World → Value → Prop) (vs0 : Nat → Value)
    (hs : AllAt (fun i o => ∀ L vs a' w', (∀ e ∈ o.after, Region.binds .any e = true → L e.on = true) → Fr ops a L vs a' → Plan w c mk L vs w' →
      ∀ K : Act → World → Prop, (∀ v w'', Plan w c mk (upd L i true) (upd vs i v) w'' → K (a'.put o.dst v) w'') → Oper.wp P o a' w' K Q) 0 ops.toList)
    (he : ∀ vs w', Plan w c mk (fun j => decide (j < ops.size)) vs w' → Q .normal (finTo ops vs a ops.size) w') :
    (Code.region id ops true).wp P Q a w := by
  refine wp_region_inv hm hok (Plan w c mk) vs0 Plan.start (fun i o L vs a' w' ho hA hF hG => guard_wanted hgd ho hA hF hG.val) ?_ he
  intro i o L vs a' w' ho hL hA hF hG
  have := AllAt.at hs (i := i) (o := o) (by simpa using ho)
  rw [Nat.zero_add] at this
  exact this L vs a' w' hA hF hG

def putL (a : Act) : List (Option Tmp × Value) → Act
  | [] => a
  | x :: l => putL (a.put x.1 x.2) l
theorem putL_snoc (l : List (Option Tmp × Value)) (x : Option Tmp × Value) : ∀ a : Act, putL a (l ++ [x]) = (putL a l).put x.1 x.2 := by
  induction l with
  | nil => intro a; rfl
  | cons y l ih => intro a; rw [List.cons_append, putL, ih, putL]
theorem finTo_eq (vs : Nat → Value) (a : Act) : ∀ n, finTo ops vs a n = putL a ((List.range n).map fun j => (dstOf ops j, vs j))
  | 0 => rfl
  | n + 1 => by rw [List.range_succ, List.map_append, List.map_singleton, putL_snoc, finTo, finTo_eq vs a n]
theorem wp_region_list {id : Nat} {a : Act} {w : World} (hm : P.follows .mixedOrders = true) (hok : plainOps ops a.tmps.size = true)
    (c : Nat → Option Value) (hgd : guardsOk ops c = true) (mk : Nat → World → Value → Prop) (PL : (Nat → Value) → List (Option Tmp × Value)) (hPL : ∀ vs, (List.range ops.size).map (fun j => (dstOf ops j, (c j).getD (vs j))) = PL vs)
    (hs : AllAt (fun i o => ∀ L vs a' w', (∀ e ∈ o.after, Region.binds .any e = true → L e.on = true) → Fr ops a L vs a' → Plan w c mk L vs w' →
      ∀ K : Act → World → Prop, (∀ v w'', Plan w c mk (upd L i true) (upd vs i v) w'' → K (a'.put o.dst v) w'') → Oper.wp P o a' w' K Q) 0 ops.toList)
    (he : ∀ vs w', Below w.heap.size w w' → (∀ j, j < ops.size → mk j w' (vs j)) → Q .normal (putL a (PL vs)) w') :
    (Code.region id ops true).wp P Q a w := by
  refine wp_region_plan hm hok c hgd mk (fun _ => undef) hs (fun vs w' hG => ?_)
  have := he vs w' hG.below (fun j hj => hG.made j (by simp [hj]))
  rw [← hPL] at this
  rw [finTo_eq]
  rw [show ((List.range ops.size).map fun j => (dstOf ops j, vs j)) = (List.range ops.size).map (fun j => (dstOf ops j, (c j).getD (vs j))) from ?_]
  · exact this
  · refine List.map_congr_left (fun j hj => ?_)
    have hj := List.mem_range.1 hj
    cases hc : c j with
    | none => rfl
    | some v => rw [hG.val j v hc (by simp [hj])]; rfl

/- The same, with a condition of one's own on what is made. -/
structure PlanX (w0 : World) (c : Nat → Option Value) (X : (Nat → Bool) → (Nat → Value) → World → Prop) (L : Nat → Bool) (vs : Nat → Value) (w : World) : Prop where
  below : Below w0.heap.size w0 w
  val : ∀ j v, c j = some v → L j = true → vs j = v
  ex : X L vs w
theorem PlanX.next {w0 : World} {c : Nat → Option Value} {X : (Nat → Bool) → (Nat → Value) → World → Prop} {L : Nat → Bool} {vs : Nat → Value} {w : World} (h : PlanX w0 c X L vs w) {i : Nat} {v : Value} {w' : World} (hv : ∀ u, c i = some u → v = u) (hX : X (upd L i true) (upd vs i v) w') (hb : Below w0.heap.size w0 w') :
    PlanX w0 c X (upd L i true) (upd vs i v) w' := by
  refine ⟨hb, fun j u hj hL => ?_, hX⟩
  by_cases hji : j = i
  · subst hji; rw [upd, if_pos rfl]; exact hv u hj
  · rw [upd, if_neg hji]; rw [upd, if_neg hji] at hL; exact h.val j u hj hL
theorem PlanX.next_val {w0 : World} {c : Nat → Option Value} {X : (Nat → Bool) → (Nat → Value) → World → Prop} {L : Nat → Bool} {vs : Nat → Value} {w : World} (h : PlanX w0 c X L vs w) {i : Nat} {v : Value} {w' : World} (hc : c i = some v) (hX : X (upd L i true) (upd vs i v) w') (hb : Below w.heap.size w w') :
    PlanX w0 c X (upd L i true) (upd vs i v) w' := h.next (fun u hu => Option.some.inj (hc.symm.trans hu)) hX (below_next h.below hb)
theorem PlanX.next_mk {w0 : World} {c : Nat → Option Value} {X : (Nat → Bool) → (Nat → Value) → World → Prop} {L : Nat → Bool} {vs : Nat → Value} {w : World} (h : PlanX w0 c X L vs w) {i : Nat} {v : Value} {w' : World} (hc : c i = none) (hX : X (upd L i true) (upd vs i v) w') (hb : Below w0.heap.size w0 w') :
    PlanX w0 c X (upd L i true) (upd vs i v) w' := h.next (fun u hu => (nomatch hc.symm.trans hu)) hX hb
theorem PlanX.at {w0 : World} {c : Nat → Option Value} {X : (Nat → Bool) → (Nat → Value) → World → Prop} {L : Nat → Bool} {vs : Nat → Value} {w : World} {a0 a : Act} (h : PlanX w0 c X L vs w) (hF : Fr ops a0 L vs a) (j d : Nat) {v : Value} (hL : L j = true) (hd : dstOf ops j = some d) (hc : c j = some v) : a.tmps[d]? = some v := by
  rw [hF.hit j d hL hd, h.val j v hc hL]
theorem wp_region_listX {id : Nat} {a : Act} {w : World} (hm : P.follows .mixedOrders = true) (hok : plainOps ops a.tmps.size = true)
    (c : Nat → Option Value) (hgd : guardsOk ops c = true) (X : (Nat → Bool) → (Nat → Value) → World → Prop) (PL : (Nat → Value) → List (Option Tmp × Value)) (hPL : ∀ vs, (List.range ops.size).map (fun j => (dstOf ops j, (c j).getD (vs j))) = PL vs)
    (hX0 : X (fun _ => false) (fun _ => undef) w.drew)
    (hs : AllAt (fun i o => ∀ L vs a' w', L i = false → (∀ e ∈ o.after, Region.binds .any e = true → L e.on = true) → Fr ops a L vs a' → PlanX w c X L vs w' →
      ∀ K : Act → World → Prop, (∀ v w'', PlanX w c X (upd L i true) (upd vs i v) w'' → K (a'.put o.dst v) w'') → Oper.wp P o a' w' K Q) 0 ops.toList)
    (he : ∀ vs w', Below w.heap.size w w' → X (fun j => decide (j < ops.size)) vs w' → Q .normal (putL a (PL vs)) w') :
    (Code.region id ops true).wp P Q a w := by
  refine wp_region_inv hm hok (PlanX w c X) (fun _ => undef) ⟨(Below.refl _ _).drew, fun _ _ _ h => (nomatch h), hX0⟩ (fun i o L vs a' w' ho hA hF hG => guard_wanted hgd ho hA hF hG.val) ?_ (fun vs w' hG => ?_)
  · intro i o L vs a' w' ho hL hA hF hG
    have := AllAt.at hs (i := i) (o := o) (by simpa using ho)
    rw [Nat.zero_add] at this
    exact this L vs a' w' hL hA hF hG
  · have := he vs w' hG.below hG.ex
    rw [← hPL] at this
    rw [finTo_eq]
    rw [show ((List.range ops.size).map fun j => (dstOf ops j, vs j)) = (List.range ops.size).map (fun j => (dstOf ops j, (c j).getD (vs j))) from ?_]
    · exact this
    · refine List.map_congr_left (fun j hj => ?_)
      have hj := List.mem_range.1 hj
      cases hc : c j with
      | none => rfl
      | some v => rw [hG.val j v hc (by simp [hj])]; rfl
end
end Go.Proofs.YtpmiddhdgidimaaGreatDoor
namespace Go.Proofs.YtpmiddhdgidimaaGreatDoor
open Go.RowKit Go.Proofs.YtpmiddhdgidimaaGreatDoorW.PrintWords

theorem KPT : Keeps (fun _ _ _ => True) := fun _ _ _ _ _ _ => trivial
/-- What the second region makes: the type's byte, and bytes 0. -/
def mk2 (typ : UInt8) (j : Nat) (w : World) (v : Value) : Prop := match j with
  | 2 => ∃ g, v = .slice (some ⟨g, 0, none⟩) 1 1 ∧ Bytes w g [typ]
  | 31 => ∃ g, v = .slice (some ⟨g, 0, none⟩) 12 12 ∧ Bytes w g (List.replicate 12 0)
  | _ => True
theorem keeps2 (typ : UInt8) : Keeps (mk2 typ) := by
  intro j w w' v hb h
  unfold mk2 at h ⊢
  split
  · simp only at h
    obtain ⟨g, h1, h2⟩ := h
    exact ⟨g, h1, h2.below hb h2.lt⟩
  · simp only at h
    obtain ⟨g, h1, h2⟩ := h
    exact ⟨g, h1, h2.below hb h2.lt⟩
  · trivial
theorem byte_new (w : World) (c : UInt8) : Bytes (w.alloc (.cells #[.int .u8 (c.toNat : Int)] 5)) w.heap.size [c] := by
  refine ⟨fun j hj => ?_, fun j hj => ?_, by simp⟩
  · obtain rfl : j = 0 := by simpa using hj
    exact blk_cell (heap_alloc_new w _) 0
  · exact blk_frozen (heap_alloc_new w _) j
theorem zeros_newN (n : Nat) (w : World) : Bytes (w.alloc (.cells (madeCells #[.int .u8 0] n) 5)) w.heap.size (List.replicate n 0) := by
  refine ⟨fun j hj => ?_, fun j hj => ?_, by simp⟩
  · rw [World.cell?_alloc_at _ _ _ _ (by simp)]
    rw [List.length_replicate] at hj
    have h2 : (madeCells #[Value.int .u8 0] n).toList[j]? = some (.int .u8 0) := by rw [toList_madeCells_one, List.getElem?_replicate, if_pos hj]
    rw [← Array.getElem?_toList, h2]
    simp [List.getD_eq_getElem?_getD, hj]
  · exact blk_frozen (heap_alloc_new w (.cells (madeCells #[.int .u8 0] n) 5)) j
theorem zeros_new (w : World) : Bytes (w.alloc (.cells (madeCells #[.int .u8 0] 12) 5)) w.heap.size (List.replicate 12 0) := zeros_newN 12 w
theorem zeros_make (w : World) : (Instr.makeSlice 40 (.int .i64 12) (.int .i64 12)).run Tryz.prog w = .ok (.slice (some ⟨w.heap.size, 0, none⟩) 12 12) (w.alloc (.cells (madeCells #[.int .u8 0] 12) 5)) :=
  run_make_row' (P := Tryz.prog) 40 5 (.int .u8 0) 1 Tryz.underlying40 info_byte rfl .i64 .i64 12 (by omega) (by omega) w
theorem sum_take {l : List UInt8} {k : Nat} (hk : k < l.length) : sumOf (l.take (k + 1)) = sumOf (l.take k) + (l.getD k 0).toNat := by
  rw [List.take_succ_eq_append_getElem hk, sumOf_snoc, List.getD_eq_getElem?_getD, List.getElem?_eq_getElem hk]
  rfl
theorem octL8_tail (n : Nat) : (octL 8 n).drop 1 = octD 6 n ++ [0] := by
  unfold octL
  rw [show 8 - 1 = 6 + 1 from rfl, octD_cons]
  rfl
theorem octal8_ok {n : Nat} (h : n < 262144) : octOk 8 (n : Int) = true := by
  rw [octOk_iff]
  exact ⟨Int.natCast_nonneg _, by omega⟩
set_option maxHeartbeats 4000000 in
set_option maxRecDepth 100000 in
theorem rPut_no (h : Hd) (w : World) (hi : Ints h) (hm : mayH h = false) :
    Calls Tryz.prog 12 #[.agg (hdCells h)] w fun e w' => e = .returned (.string (mkS [])) ∧ Below w.heap.size w w' := by
  have HM := Aside0.mk (fun W => rMay_any h W hi)
  rw [hm] at HM
  have HB0 := Aside0.mk (below_alloc (Below.refl w.heap.size w) (.cells (hdCells h) 23))
  clear hi hm
  obtain ⟨name, mode, uid, gid, size, mtime, typ, link, uname, gname, major, minor, pre⟩ := h
  unfold hdCells at HM HB0 ⊢
  simp only at HM HB0 ⊢
  go_enter Tryz.func12, Tryz.ntmps12
  go_wp2_with fail
  refine (HM.out _).mono ?_
  rintro e w1 ⟨rfl, hb1⟩
  go_wp2_with fail
  go_ret
  exact ⟨rfl, below_next HB0.out hb1⟩
set_option maxHeartbeats 40000000 in
set_option maxRecDepth 100000 in
theorem rPut_ok (h : Hd) (w : World) (hi : Ints h) (hm : mayH h = true) :
    Calls Tryz.prog 12 #[.agg (hdCells h)] w fun e w' => e = .returned (.string (mkS (blockT h))) ∧ Below w.heap.size w w' := by
  have HM := Aside0.mk (fun W => rMay_any h W hi)
  rw [hm] at HM
  have m := (mayH_iff h).1 hm
  have HB0 := Aside0.mk (below_alloc (Below.refl w.heap.size w) (.cells (hdCells h) 23))
  have g0 := heap_alloc_new w (.cells (hdCells h) 23)
  have hsum := sum_lt m
  clear hm
  have hlA := blockA_length m
  have hlB := blockB_length m
  obtain ⟨BT, hBT⟩ : ∃ BT, blockT h = BT := ⟨_, rfl⟩
  rw [hBT]
  obtain ⟨name, mode, uid, gid, size, mtime, typ, link, uname, gname, major, minor, pre⟩ := h
  unfold hdCells at HM HB0 g0 ⊢
  simp only at HM HB0 g0 ⊢
  obtain ⟨i1, i2, i3, i4, i5, i6, i7⟩ := hi
  simp only at i1 i2 i3 i4 i5 i6 i7
  obtain ⟨m1, m2, m3, m4, m5, m6, m7, m8, m9, m10, m11, m12⟩ := m
  simp only at m1 m2 m3 m4 m5 m6 m7 m8 m9 m10 m11 m12
  have hn := (textOk_le m1).1
  have hk := (textOk_le m2).1
  have hu := (textOk_le m3).1
  have hgn := (textOk_le m4).1
  have hpr := (textOk_le m5).1
  have q0 := fill_length name 100 hn
  have q1 := fld_length m6.1 (by decide)
  have q2 := fld_length m7.1 (by decide)
  have q3 := fld_length m8.1 (by decide)
  have q4 := fld_length m11.1 (by decide)
  have q5 := fld_length m12 (by decide)
  have q6 := fill_length link 100 hk
  have q7 := fill_length uname 32 hu
  have q8 := fill_length gname 32 hgn
  have q9 := fld_length m9.1 (by decide)
  have q10 := fld_length m10.1 (by decide)
  have q11 := fill_length pre 155 hpr
  have fil := fun (l : List UInt8) (n : Nat) (hl : l.length ≤ n) (hn : n ≤ 1000) => Aside0.mk (fun W => rFilled_any l n W hl (by omega))
  have HT1 := fil name 100 hn (by decide)
  have HT2 := fil link 100 hk (by decide)
  have HT3 := fil uname 32 hu (by decide)
  have HT4 := fil gname 32 hgn (by decide)
  have HT5 := fil pre 155 hpr (by decide)
  have fie := fun (n : Int) (wd : Nat) (hw : wd = 8 ∨ wd = 12) (h1 : -9223372036854775808 ≤ n ∧ n ≤ 9223372036854775807) (hs : (fieldT n wd).isSome = true) => Aside0.mk (fun W => show Calls Tryz.prog 29 #[.int .i64 n, .int .i64 (wd : Int)] W fun e w' => e = .returned (.agg #[.string (mkS (fld n wd)), .bool true]) ∧ Below W.heap.size W w' from by
    have := rField_any n wd W hw h1.1 h1.2
    rw [fld_some hs] at this
    exact this)
  have HF1 := fie mode 8 (.inl rfl) i1 m6.1
  have HF2 := fie uid 8 (.inl rfl) i2 m7.1
  have HF3 := fie gid 8 (.inl rfl) i3 m8.1
  have HF4 := fie size 12 (.inr rfl) i4 m11.1
  have HF5 := fie mtime 12 (.inr rfl) i5 m12
  have HF6 := fie major 8 (.inl rfl) i6 m9.1
  have HF7 := fie minor 8 (.inl rfl) i7 m10.1
  clear fil fie
  have eA : blockA ⟨name, mode, uid, gid, size, mtime, typ, link, uname, gname, major, minor, pre⟩ = ((((fill name 100 ++ fld mode 8) ++ fld uid 8) ++ fld gid 8) ++ fld size 12) ++ fld mtime 12 := rfl
  obtain ⟨A0, hA0⟩ : ∃ A0, fill name 100 = A0 := ⟨_, rfl⟩
  obtain ⟨F1, hF1⟩ : ∃ F1, fld mode 8 = F1 := ⟨_, rfl⟩
  obtain ⟨F2, hF2⟩ : ∃ F2, fld uid 8 = F2 := ⟨_, rfl⟩
  obtain ⟨F3, hF3⟩ : ∃ F3, fld gid 8 = F3 := ⟨_, rfl⟩
  obtain ⟨F4, hF4⟩ : ∃ F4, fld size 12 = F4 := ⟨_, rfl⟩
  obtain ⟨F5, hF5⟩ : ∃ F5, fld mtime 12 = F5 := ⟨_, rfl⟩
  rw [hA0, hF1, hF2, hF3, hF4, hF5] at eA
  rw [hA0] at q0 HT1
  rw [hF1] at q1 HF1
  rw [hF2] at q2 HF2
  rw [hF3] at q3 HF3
  rw [hF4] at q4 HF4
  rw [hF5] at q5 HF5
  obtain ⟨c1, hc1⟩ : ∃ c1, A0 ++ F1 = c1 := ⟨_, rfl⟩
  obtain ⟨c2, hc2⟩ : ∃ c2, c1 ++ F2 = c2 := ⟨_, rfl⟩
  obtain ⟨c3, hc3⟩ : ∃ c3, c2 ++ F3 = c3 := ⟨_, rfl⟩
  obtain ⟨c4, hc4⟩ : ∃ c4, c3 ++ F4 = c4 := ⟨_, rfl⟩
  obtain ⟨c5, hc5⟩ : ∃ c5, c4 ++ F5 = c5 := ⟨_, rfl⟩
  rw [hc1, hc2, hc3, hc4, hc5] at eA
  have l1 : c1.length = 108 := by rw [← hc1, List.length_append, q0, q1]
  have l2 : c2.length = 116 := by rw [← hc2, List.length_append, l1, q2]
  have l3 : c3.length = 124 := by rw [← hc3, List.length_append, l2, q3]
  have l4 : c4.length = 136 := by rw [← hc4, List.length_append, l3, q4]
  have l5 : c5.length = 148 := by rw [← hc5, List.length_append, l4, q5]
  have b1 := Aside0.mk (fun W => str_add (P := Tryz.prog) (s := mkS A0) (t := mkS F1) rfl rfl hc1 (by omega) W)
  have b2 := Aside0.mk (fun W => str_add (P := Tryz.prog) (s := mkS c1) (t := mkS F2) rfl rfl hc2 (by omega) W)
  have b3 := Aside0.mk (fun W => str_add (P := Tryz.prog) (s := mkS c2) (t := mkS F3) rfl rfl hc3 (by omega) W)
  have b4 := Aside0.mk (fun W => str_add (P := Tryz.prog) (s := mkS c3) (t := mkS F4) rfl rfl hc4 (by omega) W)
  have b5 := Aside0.mk (fun W => str_add (P := Tryz.prog) (s := mkS c4) (t := mkS F5) rfl rfl hc5 (by omega) W)
  have eB : blockB ⟨name, mode, uid, gid, size, mtime, typ, link, uname, gname, major, minor, pre⟩ = [typ] ++ fill link 100 ++ magicL ++ fill uname 32 ++ fill gname 32 ++ fld major 8 ++ fld minor 8 ++ fill pre 155 ++ List.replicate 12 0 := rfl
  obtain ⟨L1, hL1⟩ : ∃ L1, fill link 100 = L1 := ⟨_, rfl⟩
  obtain ⟨U1, hU1⟩ : ∃ U1, fill uname 32 = U1 := ⟨_, rfl⟩
  obtain ⟨G1, hG1⟩ : ∃ G1, fill gname 32 = G1 := ⟨_, rfl⟩
  obtain ⟨M1, hM1⟩ : ∃ M1, fld major 8 = M1 := ⟨_, rfl⟩
  obtain ⟨N1, hN1⟩ : ∃ N1, fld minor 8 = N1 := ⟨_, rfl⟩
  obtain ⟨P1, hP1⟩ : ∃ P1, fill pre 155 = P1 := ⟨_, rfl⟩
  obtain ⟨Z12, hz12⟩ : ∃ Z12, List.replicate 12 (0 : UInt8) = Z12 := ⟨_, rfl⟩
  have z12 : Z12.length = 12 := by rw [← hz12]; rfl
  have hZ12 := Aside0.mk hz12
  rw [hL1] at q6 HT2
  rw [hU1] at q7 HT3
  rw [hG1] at q8 HT4
  rw [hM1] at q9 HF6
  rw [hN1] at q10 HF7
  rw [hP1] at q11 HT5
  rw [hL1, hU1, hG1, hM1, hN1, hP1, hz12] at eB
  obtain ⟨d1, hd1⟩ : ∃ d1, [typ] ++ L1 = d1 := ⟨_, rfl⟩
  obtain ⟨d2, hd2⟩ : ∃ d2, d1 ++ magicL = d2 := ⟨_, rfl⟩
  obtain ⟨d3, hd3⟩ : ∃ d3, d2 ++ U1 = d3 := ⟨_, rfl⟩
  obtain ⟨d4, hd4⟩ : ∃ d4, d3 ++ G1 = d4 := ⟨_, rfl⟩
  obtain ⟨d5, hd5⟩ : ∃ d5, d4 ++ M1 = d5 := ⟨_, rfl⟩
  obtain ⟨d6, hd6⟩ : ∃ d6, d5 ++ N1 = d6 := ⟨_, rfl⟩
  obtain ⟨d7, hd7⟩ : ∃ d7, d6 ++ P1 = d7 := ⟨_, rfl⟩
  obtain ⟨d8, hd8⟩ : ∃ d8, d7 ++ Z12 = d8 := ⟨_, rfl⟩
  rw [hd1, hd2, hd3, hd4, hd5, hd6, hd7, hd8] at eB
  have r1 : d1.length = 101 := by rw [← hd1, List.length_append, q6]; rfl
  have r2 : d2.length = 109 := by rw [← hd2, List.length_append, r1]; rfl
  have r3 : d3.length = 141 := by rw [← hd3, List.length_append, r2, q7]
  have r4 : d4.length = 173 := by rw [← hd4, List.length_append, r3, q8]
  have r5 : d5.length = 181 := by rw [← hd5, List.length_append, r4, q9]
  have r6 : d6.length = 189 := by rw [← hd6, List.length_append, r5, q10]
  have r7 : d7.length = 344 := by rw [← hd7, List.length_append, r6, q11]
  have r8 : d8.length = 356 := by rw [← hd8, List.length_append, r7, z12]
  have k1 := Aside0.mk (fun W => str_add (P := Tryz.prog) (s := mkS [typ]) (t := mkS L1) rfl rfl hd1 (by omega) W)
  have k2 := Aside0.mk (fun W => str_add (P := Tryz.prog) (s := mkS d1) (t := ⟨#[117, 115, 116, 97, 114, 0, 48, 48]⟩) (b := magicL) rfl rfl hd2 (by omega) W)
  have k3 := Aside0.mk (fun W => str_add (P := Tryz.prog) (s := mkS d2) (t := mkS U1) rfl rfl hd3 (by omega) W)
  have k4 := Aside0.mk (fun W => str_add (P := Tryz.prog) (s := mkS d3) (t := mkS G1) rfl rfl hd4 (by omega) W)
  have k5 := Aside0.mk (fun W => str_add (P := Tryz.prog) (s := mkS d4) (t := mkS M1) rfl rfl hd5 (by omega) W)
  have k6 := Aside0.mk (fun W => str_add (P := Tryz.prog) (s := mkS d5) (t := mkS N1) rfl rfl hd6 (by omega) W)
  have k7 := Aside0.mk (fun W => str_add (P := Tryz.prog) (s := mkS d6) (t := mkS P1) rfl rfl hd7 (by omega) W)
  have k8 := Aside0.mk (fun W => str_add (P := Tryz.prog) (s := mkS d7) (t := mkS Z12) rfl rfl hd8 (by omega) W)
  rw [eA, eB] at hsum
  have hbt : BT = (c5 ++ sumT (sumN c5 d8)) ++ d8 := by
    rw [← hBT]
    unfold blockT
    rw [eA, eB]
  have HBT := Aside0.mk hbt
  have HSUM := Aside0.mk hsum
  have L5 := Aside0.mk l5
  have R8 := Aside0.mk r8
  clear hbt hsum l1 l2 l3 l4 l5 r1 r2 r3 r4 r5 r6 r7 r8 eA eB hlA hlB hBT hc1 hc2 hc3 hc4 hc5 hd1 hd2 hd3 hd4 hd5 hd6 hd7 hd8 q0 q1 q2 q3 q4 q5 q6 q7 q8 q9 q10 q11 hL1 hU1 hG1 hM1 hN1 hP1 hz12 z12 hA0 hF1 hF2 hF3 hF4 hF5 hn hk hu hgn hpr m1 m2 m3 m4 m5 m6 m7 m8 m9 m10 m11 m12 i1 i2 i3 i4 i5 i6 i7
  go_enter Tryz.func12, Tryz.ntmps12
  go_wp2_with fail
  refine (HM.out _).mono ?_
  rintro e w1 ⟨rfl, hb1⟩
  have HH := Aside0.mk ((hb1.block _ (blk_lt g0)).trans g0)
  have HB1 := Aside0.mk (below_next HB0.out hb1)
  clear hb1 g0 HB0 HM
  have HP := Aside0.mk (blk_lt HH.out)
  obtain ⟨p, hp⟩ : ∃ p, w.heap.size = p := ⟨_, rfl⟩
  rw [hp] at HH HP ⊢
  rw [hp] at HB1
  have HPW := Aside0.mk (Nat.le_of_eq hp.symm)
  have HPE := Aside0.mk (fun (W : World) (hb : Below p w W) => show Below w.heap.size w W from by rw [hp]; exact hb)
  clear hp
  go_wp2_with fail
  refine wp_region_list (by kernel_rfl) (by kernel_rfl) (fun j => ([some (.pointer (some ⟨p, 0, none⟩)), some (.string (mkS name)), some (.string (mkS A0)), some (.pointer (some ⟨p, 1, none⟩)), some (.int .i64 mode), some (.agg #[.string (mkS F1), .bool true]), some (.string (mkS F1)), some (.string (mkS c1)), some (.pointer (some ⟨p, 2, none⟩)), some (.int .i64 uid), some (.agg #[.string (mkS F2), .bool true]), some (.string (mkS F2)), some (.string (mkS c2)), some (.pointer (some ⟨p, 3, none⟩)), some (.int .i64 gid), some (.agg #[.string (mkS F3), .bool true]), some (.string (mkS F3)), some (.string (mkS c3)), some (.pointer (some ⟨p, 4, none⟩)), some (.int .i64 size), some (.agg #[.string (mkS F4), .bool true]), some (.string (mkS F4)), some (.string (mkS c4)), some (.pointer (some ⟨p, 5, none⟩)), some (.int .i64 mtime), some (.agg #[.string (mkS F5), .bool true]), some (.string (mkS F5)), some (.string (mkS c5)), some (.string (mkS c5))] : List (Option Value)).getD j none) (by kernel_rfl) (fun _ _ _ => True) (fun vs => [(some 11, .pointer (some ⟨p, 0, none⟩)), (some 12, .string (mkS name)), (some 13, .string (mkS A0)), (some 14, .pointer (some ⟨p, 1, none⟩)), (some 15, .int .i64 mode), (some 16, .agg #[.string (mkS F1), .bool true]), (some 17, .string (mkS F1)), (some 18, .string (mkS c1)), (some 19, .pointer (some ⟨p, 2, none⟩)), (some 20, .int .i64 uid), (some 21, .agg #[.string (mkS F2), .bool true]), (some 22, .string (mkS F2)), (some 23, .string (mkS c2)), (some 24, .pointer (some ⟨p, 3, none⟩)), (some 25, .int .i64 gid), (some 26, .agg #[.string (mkS F3), .bool true]), (some 27, .string (mkS F3)), (some 28, .string (mkS c3)), (some 29, .pointer (some ⟨p, 4, none⟩)), (some 30, .int .i64 size), (some 31, .agg #[.string (mkS F4), .bool true]), (some 32, .string (mkS F4)), (some 33, .string (mkS c4)), (some 34, .pointer (some ⟨p, 5, none⟩)), (some 35, .int .i64 mtime), (some 36, .agg #[.string (mkS F5), .bool true]), (some 37, .string (mkS F5)), (some 38, .string (mkS c5)), (some 3, .string (mkS c5))]) (fun _ => by kernel_rfl) (AllAt.cons ?_ (AllAt.cons ?_ (AllAt.cons ?_ (AllAt.cons ?_ (AllAt.cons ?_ (AllAt.cons ?_ (AllAt.cons ?_ (AllAt.cons ?_ (AllAt.cons ?_ (AllAt.cons ?_ (AllAt.cons ?_ (AllAt.cons ?_ (AllAt.cons ?_ (AllAt.cons ?_ (AllAt.cons ?_ (AllAt.cons ?_ (AllAt.cons ?_ (AllAt.cons ?_ (AllAt.cons ?_ (AllAt.cons ?_ (AllAt.cons ?_ (AllAt.cons ?_ (AllAt.cons ?_ (AllAt.cons ?_ (AllAt.cons ?_ (AllAt.cons ?_ (AllAt.cons ?_ (AllAt.cons ?_ (AllAt.cons ?_ (AllAt.nil)))))))))))))))))))))))))))))) ?_
  · -- 0: addr
    intro L vs a' w' hA hF hG K hK
    have e1 : a'.tmps[1]? = some (.pointer (some ⟨p, 0, none⟩)) := hF.old rfl (by kernel_rfl)
    clear hF hA
    go_simp
    exact hK _ _ (hG.next_val KPT rfl trivial (Below.refl _ _))
  · -- 1: load
    intro L vs a' w' hA hF hG K hK
    have e11 : a'.tmps[11]? = some (.pointer (some ⟨p, 0, none⟩)) := hG.at hF 0 11 (hA ⟨0, .data⟩ (by simp) rfl) rfl rfl
    have hc : w'.cell? ⟨p, 0, none⟩ = some (.string (mkS name)) := blk_cell ((hG.below.block p HP.out).trans HH.out) 0
    clear hF hA
    go_simp
    exact hK _ _ (hG.next_val KPT rfl trivial (Below.refl _ _))
  · -- 2: call
    intro L vs a' w' hA hF hG K hK
    have e12 : a'.tmps[12]? = some (.string (mkS name)) := hG.at hF 1 12 (hA ⟨1, .data⟩ (by simp) rfl) rfl rfl
    clear hF hA
    go_simp
    refine (HT1.out _).mono ?_
    rintro e w2 ⟨rfl, hb⟩
    exact hK _ _ (hG.next_val KPT rfl trivial hb)
  · -- 3: addr
    intro L vs a' w' hA hF hG K hK
    have e1 : a'.tmps[1]? = some (.pointer (some ⟨p, 0, none⟩)) := hF.old rfl (by kernel_rfl)
    clear hF hA
    go_simp
    exact hK _ _ (hG.next_val KPT rfl trivial (Below.refl _ _))
  · -- 4: load
    intro L vs a' w' hA hF hG K hK
    have e14 : a'.tmps[14]? = some (.pointer (some ⟨p, 1, none⟩)) := hG.at hF 3 14 (hA ⟨3, .data⟩ (by simp) rfl) rfl rfl
    have hc : w'.cell? ⟨p, 1, none⟩ = some (.int .i64 mode) := blk_cell ((hG.below.block p HP.out).trans HH.out) 1
    clear hF hA
    go_simp
    exact hK _ _ (hG.next_val KPT rfl trivial (Below.refl _ _))
  · -- 5: call
    intro L vs a' w' hA hF hG K hK
    have e15 : a'.tmps[15]? = some (.int .i64 mode) := hG.at hF 4 15 (hA ⟨4, .data⟩ (by simp) rfl) rfl rfl
    clear hF hA
    go_simp
    refine (HF1.out _).mono ?_
    rintro e w2 ⟨rfl, hb⟩
    exact hK _ _ (hG.next_val KPT rfl trivial hb)
  · -- 6: field
    intro L vs a' w' hA hF hG K hK
    have e16 : a'.tmps[16]? = some (.agg #[.string (mkS F1), .bool true]) := hG.at hF 5 16 (hA ⟨5, .data⟩ (by simp) rfl) rfl rfl
    have hfd : ∀ (y : ByteArray) (b : Bool) (w : World), (Instr.field 64 (.agg #[.string y, .bool b]) 0).run Tryz.prog w = .ok (.string y) w := fun _ _ _ => by kernel_rfl
    clear hF hA
    go_simp
    exact hK _ _ (hG.next_val KPT rfl trivial (Below.refl _ _))
  · -- 7: add
    intro L vs a' w' hA hF hG K hK
    have e13 : a'.tmps[13]? = some (.string (mkS A0)) := hG.at hF 2 13 (hA ⟨2, .data⟩ (by simp) rfl) rfl rfl
    have e17 : a'.tmps[17]? = some (.string (mkS F1)) := hG.at hF 6 17 (hA ⟨6, .data⟩ (by simp) rfl) rfl rfl
    have hb := b1.out
    clear hF hA
    go_simp
    exact hK _ _ (hG.next_val KPT rfl trivial (Below.refl _ _))
  · -- 8: addr
    intro L vs a' w' hA hF hG K hK
    have e1 : a'.tmps[1]? = some (.pointer (some ⟨p, 0, none⟩)) := hF.old rfl (by kernel_rfl)
    clear hF hA
    go_simp
    exact hK _ _ (hG.next_val KPT rfl trivial (Below.refl _ _))
  · -- 9: load
    intro L vs a' w' hA hF hG K hK
    have e19 : a'.tmps[19]? = some (.pointer (some ⟨p, 2, none⟩)) := hG.at hF 8 19 (hA ⟨8, .data⟩ (by simp) rfl) rfl rfl
    have hc : w'.cell? ⟨p, 2, none⟩ = some (.int .i64 uid) := blk_cell ((hG.below.block p HP.out).trans HH.out) 2
    clear hF hA
    go_simp
    exact hK _ _ (hG.next_val KPT rfl trivial (Below.refl _ _))
  · -- 10: call
    intro L vs a' w' hA hF hG K hK
    have e20 : a'.tmps[20]? = some (.int .i64 uid) := hG.at hF 9 20 (hA ⟨9, .data⟩ (by simp) rfl) rfl rfl
    clear hF hA
    go_simp
    refine (HF2.out _).mono ?_
    rintro e w2 ⟨rfl, hb⟩
    exact hK _ _ (hG.next_val KPT rfl trivial hb)
  · -- 11: field
    intro L vs a' w' hA hF hG K hK
    have e21 : a'.tmps[21]? = some (.agg #[.string (mkS F2), .bool true]) := hG.at hF 10 21 (hA ⟨10, .data⟩ (by simp) rfl) rfl rfl
    have hfd : ∀ (y : ByteArray) (b : Bool) (w : World), (Instr.field 64 (.agg #[.string y, .bool b]) 0).run Tryz.prog w = .ok (.string y) w := fun _ _ _ => by kernel_rfl
    clear hF hA
    go_simp
    exact hK _ _ (hG.next_val KPT rfl trivial (Below.refl _ _))
  · -- 12: add
    intro L vs a' w' hA hF hG K hK
    have e18 : a'.tmps[18]? = some (.string (mkS c1)) := hG.at hF 7 18 (hA ⟨7, .data⟩ (by simp) rfl) rfl rfl
    have e22 : a'.tmps[22]? = some (.string (mkS F2)) := hG.at hF 11 22 (hA ⟨11, .data⟩ (by simp) rfl) rfl rfl
    have hb := b2.out
    clear hF hA
    go_simp
    exact hK _ _ (hG.next_val KPT rfl trivial (Below.refl _ _))
  · -- 13: addr
    intro L vs a' w' hA hF hG K hK
    have e1 : a'.tmps[1]? = some (.pointer (some ⟨p, 0, none⟩)) := hF.old rfl (by kernel_rfl)
    clear hF hA
    go_simp
    exact hK _ _ (hG.next_val KPT rfl trivial (Below.refl _ _))
  · -- 14: load
    intro L vs a' w' hA hF hG K hK
    have e24 : a'.tmps[24]? = some (.pointer (some ⟨p, 3, none⟩)) := hG.at hF 13 24 (hA ⟨13, .data⟩ (by simp) rfl) rfl rfl
    have hc : w'.cell? ⟨p, 3, none⟩ = some (.int .i64 gid) := blk_cell ((hG.below.block p HP.out).trans HH.out) 3
    clear hF hA
    go_simp
    exact hK _ _ (hG.next_val KPT rfl trivial (Below.refl _ _))
  · -- 15: call
    intro L vs a' w' hA hF hG K hK
    have e25 : a'.tmps[25]? = some (.int .i64 gid) := hG.at hF 14 25 (hA ⟨14, .data⟩ (by simp) rfl) rfl rfl
    clear hF hA
    go_simp
    refine (HF3.out _).mono ?_
    rintro e w2 ⟨rfl, hb⟩
    exact hK _ _ (hG.next_val KPT rfl trivial hb)
  · -- 16: field
    intro L vs a' w' hA hF hG K hK
    have e26 : a'.tmps[26]? = some (.agg #[.string (mkS F3), .bool true]) := hG.at hF 15 26 (hA ⟨15, .data⟩ (by simp) rfl) rfl rfl
    have hfd : ∀ (y : ByteArray) (b : Bool) (w : World), (Instr.field 64 (.agg #[.string y, .bool b]) 0).run Tryz.prog w = .ok (.string y) w := fun _ _ _ => by kernel_rfl
    clear hF hA
    go_simp
    exact hK _ _ (hG.next_val KPT rfl trivial (Below.refl _ _))
  · -- 17: add
    intro L vs a' w' hA hF hG K hK
    have e23 : a'.tmps[23]? = some (.string (mkS c2)) := hG.at hF 12 23 (hA ⟨12, .data⟩ (by simp) rfl) rfl rfl
    have e27 : a'.tmps[27]? = some (.string (mkS F3)) := hG.at hF 16 27 (hA ⟨16, .data⟩ (by simp) rfl) rfl rfl
    have hb := b3.out
    clear hF hA
    go_simp
    exact hK _ _ (hG.next_val KPT rfl trivial (Below.refl _ _))
  · -- 18: addr
    intro L vs a' w' hA hF hG K hK
    have e1 : a'.tmps[1]? = some (.pointer (some ⟨p, 0, none⟩)) := hF.old rfl (by kernel_rfl)
    clear hF hA
    go_simp
    exact hK _ _ (hG.next_val KPT rfl trivial (Below.refl _ _))
  · -- 19: load
    intro L vs a' w' hA hF hG K hK
    have e29 : a'.tmps[29]? = some (.pointer (some ⟨p, 4, none⟩)) := hG.at hF 18 29 (hA ⟨18, .data⟩ (by simp) rfl) rfl rfl
    have hc : w'.cell? ⟨p, 4, none⟩ = some (.int .i64 size) := blk_cell ((hG.below.block p HP.out).trans HH.out) 4
    clear hF hA
    go_simp
    exact hK _ _ (hG.next_val KPT rfl trivial (Below.refl _ _))
  · -- 20: call
    intro L vs a' w' hA hF hG K hK
    have e30 : a'.tmps[30]? = some (.int .i64 size) := hG.at hF 19 30 (hA ⟨19, .data⟩ (by simp) rfl) rfl rfl
    clear hF hA
    go_simp
    refine (HF4.out _).mono ?_
    rintro e w2 ⟨rfl, hb⟩
    exact hK _ _ (hG.next_val KPT rfl trivial hb)
  · -- 21: field
    intro L vs a' w' hA hF hG K hK
    have e31 : a'.tmps[31]? = some (.agg #[.string (mkS F4), .bool true]) := hG.at hF 20 31 (hA ⟨20, .data⟩ (by simp) rfl) rfl rfl
    have hfd : ∀ (y : ByteArray) (b : Bool) (w : World), (Instr.field 64 (.agg #[.string y, .bool b]) 0).run Tryz.prog w = .ok (.string y) w := fun _ _ _ => by kernel_rfl
    clear hF hA
    go_simp
    exact hK _ _ (hG.next_val KPT rfl trivial (Below.refl _ _))
  · -- 22: add
    intro L vs a' w' hA hF hG K hK
    have e28 : a'.tmps[28]? = some (.string (mkS c3)) := hG.at hF 17 28 (hA ⟨17, .data⟩ (by simp) rfl) rfl rfl
    have e32 : a'.tmps[32]? = some (.string (mkS F4)) := hG.at hF 21 32 (hA ⟨21, .data⟩ (by simp) rfl) rfl rfl
    have hb := b4.out
    clear hF hA
    go_simp
    exact hK _ _ (hG.next_val KPT rfl trivial (Below.refl _ _))
  · -- 23: addr
    intro L vs a' w' hA hF hG K hK
    have e1 : a'.tmps[1]? = some (.pointer (some ⟨p, 0, none⟩)) := hF.old rfl (by kernel_rfl)
    clear hF hA
    go_simp
    exact hK _ _ (hG.next_val KPT rfl trivial (Below.refl _ _))
  · -- 24: load
    intro L vs a' w' hA hF hG K hK
    have e34 : a'.tmps[34]? = some (.pointer (some ⟨p, 5, none⟩)) := hG.at hF 23 34 (hA ⟨23, .data⟩ (by simp) rfl) rfl rfl
    have hc : w'.cell? ⟨p, 5, none⟩ = some (.int .i64 mtime) := blk_cell ((hG.below.block p HP.out).trans HH.out) 5
    clear hF hA
    go_simp
    exact hK _ _ (hG.next_val KPT rfl trivial (Below.refl _ _))
  · -- 25: call
    intro L vs a' w' hA hF hG K hK
    have e35 : a'.tmps[35]? = some (.int .i64 mtime) := hG.at hF 24 35 (hA ⟨24, .data⟩ (by simp) rfl) rfl rfl
    clear hF hA
    go_simp
    refine (HF5.out _).mono ?_
    rintro e w2 ⟨rfl, hb⟩
    exact hK _ _ (hG.next_val KPT rfl trivial hb)
  · -- 26: field
    intro L vs a' w' hA hF hG K hK
    have e36 : a'.tmps[36]? = some (.agg #[.string (mkS F5), .bool true]) := hG.at hF 25 36 (hA ⟨25, .data⟩ (by simp) rfl) rfl rfl
    have hfd : ∀ (y : ByteArray) (b : Bool) (w : World), (Instr.field 64 (.agg #[.string y, .bool b]) 0).run Tryz.prog w = .ok (.string y) w := fun _ _ _ => by kernel_rfl
    clear hF hA
    go_simp
    exact hK _ _ (hG.next_val KPT rfl trivial (Below.refl _ _))
  · -- 27: add
    intro L vs a' w' hA hF hG K hK
    have e33 : a'.tmps[33]? = some (.string (mkS c4)) := hG.at hF 22 33 (hA ⟨22, .data⟩ (by simp) rfl) rfl rfl
    have e37 : a'.tmps[37]? = some (.string (mkS F5)) := hG.at hF 26 37 (hA ⟨26, .data⟩ (by simp) rfl) rfl rfl
    have hb := b5.out
    clear hF hA
    go_simp
    exact hK _ _ (hG.next_val KPT rfl trivial (Below.refl _ _))
  · -- 28: assign
    intro L vs a' w' hA hF hG K hK
    have e38 : a'.tmps[38]? = some (.string (mkS c5)) := hG.at hF 27 38 (hA ⟨27, .data⟩ (by simp) rfl) rfl rfl
    clear hF hA
    go_simp
    exact hK _ _ (hG.next_val KPT rfl trivial (Below.refl _ _))
  intro vs W4 hB4 _
  simp only [putL, Act.put, List.setIfInBounds_toArray, List.set_cons_zero, List.set_cons_succ]
  replace HH := Aside0.mk ((hB4.block p HP.out).trans HH.out)
  replace HP := Aside0.mk (blk_lt HH.out)
  have HB4 := Aside0.mk (below_next HB1.out hB4 HPW.out)
  clear hB4 HB1 HT1 HF1 HF2 HF3 HF4 HF5 b1 b2 b3 b4 b5
  have KP2 := keeps2 typ
  go_wp2_with fail
  refine wp_region_list (by kernel_rfl) (by kernel_rfl) (fun j => ([some (.pointer (some ⟨p, 6, none⟩)), some (.int .u8 (typ.toNat : Int)), none, some (.string (mkS [typ])), some (.pointer (some ⟨p, 7, none⟩)), some (.string (mkS link)), some (.string (mkS L1)), some (.string (mkS d1)), some (.string (mkS d2)), some (.pointer (some ⟨p, 8, none⟩)), some (.string (mkS uname)), some (.string (mkS U1)), some (.string (mkS d3)), some (.pointer (some ⟨p, 9, none⟩)), some (.string (mkS gname)), some (.string (mkS G1)), some (.string (mkS d4)), some (.pointer (some ⟨p, 10, none⟩)), some (.int .i64 major), some (.agg #[.string (mkS M1), .bool true]), some (.string (mkS M1)), some (.string (mkS d5)), some (.pointer (some ⟨p, 11, none⟩)), some (.int .i64 minor), some (.agg #[.string (mkS N1), .bool true]), some (.string (mkS N1)), some (.string (mkS d6)), some (.pointer (some ⟨p, 12, none⟩)), some (.string (mkS pre)), some (.string (mkS P1)), some (.string (mkS d7)), none, some (.string (mkS Z12)), some (.string (mkS d8)), some (.string (mkS d8))] : List (Option Value)).getD j none) (by kernel_rfl) (mk2 typ) (fun vs => [(some 39, .pointer (some ⟨p, 6, none⟩)), (some 40, .int .u8 (typ.toNat : Int)), (some 41, vs 2), (some 42, .string (mkS [typ])), (some 43, .pointer (some ⟨p, 7, none⟩)), (some 44, .string (mkS link)), (some 45, .string (mkS L1)), (some 46, .string (mkS d1)), (some 47, .string (mkS d2)), (some 48, .pointer (some ⟨p, 8, none⟩)), (some 49, .string (mkS uname)), (some 50, .string (mkS U1)), (some 51, .string (mkS d3)), (some 52, .pointer (some ⟨p, 9, none⟩)), (some 53, .string (mkS gname)), (some 54, .string (mkS G1)), (some 55, .string (mkS d4)), (some 56, .pointer (some ⟨p, 10, none⟩)), (some 57, .int .i64 major), (some 58, .agg #[.string (mkS M1), .bool true]), (some 59, .string (mkS M1)), (some 60, .string (mkS d5)), (some 61, .pointer (some ⟨p, 11, none⟩)), (some 62, .int .i64 minor), (some 63, .agg #[.string (mkS N1), .bool true]), (some 64, .string (mkS N1)), (some 65, .string (mkS d6)), (some 66, .pointer (some ⟨p, 12, none⟩)), (some 67, .string (mkS pre)), (some 68, .string (mkS P1)), (some 69, .string (mkS d7)), (some 70, vs 31), (some 71, .string (mkS Z12)), (some 72, .string (mkS d8)), (some 4, .string (mkS d8))]) (fun _ => by kernel_rfl) (AllAt.cons ?_ (AllAt.cons ?_ (AllAt.cons ?_ (AllAt.cons ?_ (AllAt.cons ?_ (AllAt.cons ?_ (AllAt.cons ?_ (AllAt.cons ?_ (AllAt.cons ?_ (AllAt.cons ?_ (AllAt.cons ?_ (AllAt.cons ?_ (AllAt.cons ?_ (AllAt.cons ?_ (AllAt.cons ?_ (AllAt.cons ?_ (AllAt.cons ?_ (AllAt.cons ?_ (AllAt.cons ?_ (AllAt.cons ?_ (AllAt.cons ?_ (AllAt.cons ?_ (AllAt.cons ?_ (AllAt.cons ?_ (AllAt.cons ?_ (AllAt.cons ?_ (AllAt.cons ?_ (AllAt.cons ?_ (AllAt.cons ?_ (AllAt.cons ?_ (AllAt.cons ?_ (AllAt.cons ?_ (AllAt.cons ?_ (AllAt.cons ?_ (AllAt.cons ?_ (AllAt.nil)))))))))))))))))))))))))))))))))))) ?_
  · -- 0: addr
    intro L vs a' w' hA hF hG K hK
    have e1 : a'.tmps[1]? = some (.pointer (some ⟨p, 0, none⟩)) := hF.old rfl (by kernel_rfl)
    clear hF hA
    go_simp
    exact hK _ _ (hG.next_val KP2 rfl trivial (Below.refl _ _))
  · -- 1: load
    intro L vs a' w' hA hF hG K hK
    have e39 : a'.tmps[39]? = some (.pointer (some ⟨p, 6, none⟩)) := hG.at hF 0 39 (hA ⟨0, .data⟩ (by simp) rfl) rfl rfl
    have hc : w'.cell? ⟨p, 6, none⟩ = some (.int .u8 (typ.toNat : Int)) := blk_cell ((hG.below.block p HP.out).trans HH.out) 6
    clear hF hA
    go_simp
    exact hK _ _ (hG.next_val KP2 rfl trivial (Below.refl _ _))
  · -- 2: raw
    intro L vs a' w' hA hF hG K hK
    have e40 : a'.tmps[40]? = some (.int .u8 (typ.toNat : Int)) := hG.at hF 1 40 (hA ⟨1, .data⟩ (by simp) rfl) rfl rfl
    clear hF hA
    go_simp
    exact hK _ _ (hG.next_mk KP2 rfl ⟨_, rfl, byte_new _ _⟩ (below_alloc (Below.refl _ _) _))
  · -- 3: raw
    intro L vs a' w' hA hF hG K hK
    obtain ⟨g, hg, hY⟩ := hG.made 2 (hA ⟨2, .data⟩ (by simp) rfl)
    have e41 : a'.tmps[41]? = some (.slice (some ⟨g, 0, none⟩) 1 1) := by rw [hF.hit 2 41 (hA ⟨2, .data⟩ (by simp) rfl) rfl, hg]
    have hcv := hY.back (P := Tryz.prog) 40 9 5 1 1 rfl Tryz.underlying40 Tryz.underlying5 Tryz.underlying9
    clear hF hA
    go_simp
    exact hK _ _ (hG.next_val KP2 rfl trivial (Below.refl _ _))
  · -- 4: addr
    intro L vs a' w' hA hF hG K hK
    have e1 : a'.tmps[1]? = some (.pointer (some ⟨p, 0, none⟩)) := hF.old rfl (by kernel_rfl)
    clear hF hA
    go_simp
    exact hK _ _ (hG.next_val KP2 rfl trivial (Below.refl _ _))
  · -- 5: load
    intro L vs a' w' hA hF hG K hK
    have e43 : a'.tmps[43]? = some (.pointer (some ⟨p, 7, none⟩)) := hG.at hF 4 43 (hA ⟨4, .data⟩ (by simp) rfl) rfl rfl
    have hc : w'.cell? ⟨p, 7, none⟩ = some (.string (mkS link)) := blk_cell ((hG.below.block p HP.out).trans HH.out) 7
    clear hF hA
    go_simp
    exact hK _ _ (hG.next_val KP2 rfl trivial (Below.refl _ _))
  · -- 6: call
    intro L vs a' w' hA hF hG K hK
    have e44 : a'.tmps[44]? = some (.string (mkS link)) := hG.at hF 5 44 (hA ⟨5, .data⟩ (by simp) rfl) rfl rfl
    clear hF hA
    go_simp
    refine (HT2.out _).mono ?_
    rintro e w2 ⟨rfl, hb⟩
    exact hK _ _ (hG.next_val KP2 rfl trivial hb)
  · -- 7: add
    intro L vs a' w' hA hF hG K hK
    have e42 : a'.tmps[42]? = some (.string (mkS [typ])) := hG.at hF 3 42 (hA ⟨3, .data⟩ (by simp) rfl) rfl rfl
    have e45 : a'.tmps[45]? = some (.string (mkS L1)) := hG.at hF 6 45 (hA ⟨6, .data⟩ (by simp) rfl) rfl rfl
    have hb := k1.out
    clear hF hA
    go_simp
    exact hK _ _ (hG.next_val KP2 rfl trivial (Below.refl _ _))
  · -- 8: add
    intro L vs a' w' hA hF hG K hK
    have e46 : a'.tmps[46]? = some (.string (mkS d1)) := hG.at hF 7 46 (hA ⟨7, .data⟩ (by simp) rfl) rfl rfl
    have hb := k2.out
    clear hF hA
    go_simp
    exact hK _ _ (hG.next_val KP2 rfl trivial (Below.refl _ _))
  · -- 9: addr
    intro L vs a' w' hA hF hG K hK
    have e1 : a'.tmps[1]? = some (.pointer (some ⟨p, 0, none⟩)) := hF.old rfl (by kernel_rfl)
    clear hF hA
    go_simp
    exact hK _ _ (hG.next_val KP2 rfl trivial (Below.refl _ _))
  · -- 10: load
    intro L vs a' w' hA hF hG K hK
    have e48 : a'.tmps[48]? = some (.pointer (some ⟨p, 8, none⟩)) := hG.at hF 9 48 (hA ⟨9, .data⟩ (by simp) rfl) rfl rfl
    have hc : w'.cell? ⟨p, 8, none⟩ = some (.string (mkS uname)) := blk_cell ((hG.below.block p HP.out).trans HH.out) 8
    clear hF hA
    go_simp
    exact hK _ _ (hG.next_val KP2 rfl trivial (Below.refl _ _))
  · -- 11: call
    intro L vs a' w' hA hF hG K hK
    have e49 : a'.tmps[49]? = some (.string (mkS uname)) := hG.at hF 10 49 (hA ⟨10, .data⟩ (by simp) rfl) rfl rfl
    clear hF hA
    go_simp
    refine (HT3.out _).mono ?_
    rintro e w2 ⟨rfl, hb⟩
    exact hK _ _ (hG.next_val KP2 rfl trivial hb)
  · -- 12: add
    intro L vs a' w' hA hF hG K hK
    have e47 : a'.tmps[47]? = some (.string (mkS d2)) := hG.at hF 8 47 (hA ⟨8, .data⟩ (by simp) rfl) rfl rfl
    have e50 : a'.tmps[50]? = some (.string (mkS U1)) := hG.at hF 11 50 (hA ⟨11, .data⟩ (by simp) rfl) rfl rfl
    have hb := k3.out
    clear hF hA
    go_simp
    exact hK _ _ (hG.next_val KP2 rfl trivial (Below.refl _ _))
  · -- 13: addr
    intro L vs a' w' hA hF hG K hK
    have e1 : a'.tmps[1]? = some (.pointer (some ⟨p, 0, none⟩)) := hF.old rfl (by kernel_rfl)
    clear hF hA
    go_simp
    exact hK _ _ (hG.next_val KP2 rfl trivial (Below.refl _ _))
  · -- 14: load
    intro L vs a' w' hA hF hG K hK
    have e52 : a'.tmps[52]? = some (.pointer (some ⟨p, 9, none⟩)) := hG.at hF 13 52 (hA ⟨13, .data⟩ (by simp) rfl) rfl rfl
    have hc : w'.cell? ⟨p, 9, none⟩ = some (.string (mkS gname)) := blk_cell ((hG.below.block p HP.out).trans HH.out) 9
    clear hF hA
    go_simp
    exact hK _ _ (hG.next_val KP2 rfl trivial (Below.refl _ _))
  · -- 15: call
    intro L vs a' w' hA hF hG K hK
    have e53 : a'.tmps[53]? = some (.string (mkS gname)) := hG.at hF 14 53 (hA ⟨14, .data⟩ (by simp) rfl) rfl rfl
    clear hF hA
    go_simp
    refine (HT4.out _).mono ?_
    rintro e w2 ⟨rfl, hb⟩
    exact hK _ _ (hG.next_val KP2 rfl trivial hb)
  · -- 16: add
    intro L vs a' w' hA hF hG K hK
    have e51 : a'.tmps[51]? = some (.string (mkS d3)) := hG.at hF 12 51 (hA ⟨12, .data⟩ (by simp) rfl) rfl rfl
    have e54 : a'.tmps[54]? = some (.string (mkS G1)) := hG.at hF 15 54 (hA ⟨15, .data⟩ (by simp) rfl) rfl rfl
    have hb := k4.out
    clear hF hA
    go_simp
    exact hK _ _ (hG.next_val KP2 rfl trivial (Below.refl _ _))
  · -- 17: addr
    intro L vs a' w' hA hF hG K hK
    have e1 : a'.tmps[1]? = some (.pointer (some ⟨p, 0, none⟩)) := hF.old rfl (by kernel_rfl)
    clear hF hA
    go_simp
    exact hK _ _ (hG.next_val KP2 rfl trivial (Below.refl _ _))
  · -- 18: load
    intro L vs a' w' hA hF hG K hK
    have e56 : a'.tmps[56]? = some (.pointer (some ⟨p, 10, none⟩)) := hG.at hF 17 56 (hA ⟨17, .data⟩ (by simp) rfl) rfl rfl
    have hc : w'.cell? ⟨p, 10, none⟩ = some (.int .i64 major) := blk_cell ((hG.below.block p HP.out).trans HH.out) 10
    clear hF hA
    go_simp
    exact hK _ _ (hG.next_val KP2 rfl trivial (Below.refl _ _))
  · -- 19: call
    intro L vs a' w' hA hF hG K hK
    have e57 : a'.tmps[57]? = some (.int .i64 major) := hG.at hF 18 57 (hA ⟨18, .data⟩ (by simp) rfl) rfl rfl
    clear hF hA
    go_simp
    refine (HF6.out _).mono ?_
    rintro e w2 ⟨rfl, hb⟩
    exact hK _ _ (hG.next_val KP2 rfl trivial hb)
  · -- 20: field
    intro L vs a' w' hA hF hG K hK
    have e58 : a'.tmps[58]? = some (.agg #[.string (mkS M1), .bool true]) := hG.at hF 19 58 (hA ⟨19, .data⟩ (by simp) rfl) rfl rfl
    have hfd : ∀ (y : ByteArray) (b : Bool) (w : World), (Instr.field 64 (.agg #[.string y, .bool b]) 0).run Tryz.prog w = .ok (.string y) w := fun _ _ _ => by kernel_rfl
    clear hF hA
    go_simp
    exact hK _ _ (hG.next_val KP2 rfl trivial (Below.refl _ _))
  · -- 21: add
    intro L vs a' w' hA hF hG K hK
    have e55 : a'.tmps[55]? = some (.string (mkS d4)) := hG.at hF 16 55 (hA ⟨16, .data⟩ (by simp) rfl) rfl rfl
    have e59 : a'.tmps[59]? = some (.string (mkS M1)) := hG.at hF 20 59 (hA ⟨20, .data⟩ (by simp) rfl) rfl rfl
    have hb := k5.out
    clear hF hA
    go_simp
    exact hK _ _ (hG.next_val KP2 rfl trivial (Below.refl _ _))
  · -- 22: addr
    intro L vs a' w' hA hF hG K hK
    have e1 : a'.tmps[1]? = some (.pointer (some ⟨p, 0, none⟩)) := hF.old rfl (by kernel_rfl)
    clear hF hA
    go_simp
    exact hK _ _ (hG.next_val KP2 rfl trivial (Below.refl _ _))
  · -- 23: load
    intro L vs a' w' hA hF hG K hK
    have e61 : a'.tmps[61]? = some (.pointer (some ⟨p, 11, none⟩)) := hG.at hF 22 61 (hA ⟨22, .data⟩ (by simp) rfl) rfl rfl
    have hc : w'.cell? ⟨p, 11, none⟩ = some (.int .i64 minor) := blk_cell ((hG.below.block p HP.out).trans HH.out) 11
    clear hF hA
    go_simp
    exact hK _ _ (hG.next_val KP2 rfl trivial (Below.refl _ _))
  · -- 24: call
    intro L vs a' w' hA hF hG K hK
    have e62 : a'.tmps[62]? = some (.int .i64 minor) := hG.at hF 23 62 (hA ⟨23, .data⟩ (by simp) rfl) rfl rfl
    clear hF hA
    go_simp
    refine (HF7.out _).mono ?_
    rintro e w2 ⟨rfl, hb⟩
    exact hK _ _ (hG.next_val KP2 rfl trivial hb)
  · -- 25: field
    intro L vs a' w' hA hF hG K hK
    have e63 : a'.tmps[63]? = some (.agg #[.string (mkS N1), .bool true]) := hG.at hF 24 63 (hA ⟨24, .data⟩ (by simp) rfl) rfl rfl
    have hfd : ∀ (y : ByteArray) (b : Bool) (w : World), (Instr.field 64 (.agg #[.string y, .bool b]) 0).run Tryz.prog w = .ok (.string y) w := fun _ _ _ => by kernel_rfl
    clear hF hA
    go_simp
    exact hK _ _ (hG.next_val KP2 rfl trivial (Below.refl _ _))
  · -- 26: add
    intro L vs a' w' hA hF hG K hK
    have e60 : a'.tmps[60]? = some (.string (mkS d5)) := hG.at hF 21 60 (hA ⟨21, .data⟩ (by simp) rfl) rfl rfl
    have e64 : a'.tmps[64]? = some (.string (mkS N1)) := hG.at hF 25 64 (hA ⟨25, .data⟩ (by simp) rfl) rfl rfl
    have hb := k6.out
    clear hF hA
    go_simp
    exact hK _ _ (hG.next_val KP2 rfl trivial (Below.refl _ _))
  · -- 27: addr
    intro L vs a' w' hA hF hG K hK
    have e1 : a'.tmps[1]? = some (.pointer (some ⟨p, 0, none⟩)) := hF.old rfl (by kernel_rfl)
    clear hF hA
    go_simp
    exact hK _ _ (hG.next_val KP2 rfl trivial (Below.refl _ _))
  · -- 28: load
    intro L vs a' w' hA hF hG K hK
    have e66 : a'.tmps[66]? = some (.pointer (some ⟨p, 12, none⟩)) := hG.at hF 27 66 (hA ⟨27, .data⟩ (by simp) rfl) rfl rfl
    have hc : w'.cell? ⟨p, 12, none⟩ = some (.string (mkS pre)) := blk_cell ((hG.below.block p HP.out).trans HH.out) 12
    clear hF hA
    go_simp
    exact hK _ _ (hG.next_val KP2 rfl trivial (Below.refl _ _))
  · -- 29: call
    intro L vs a' w' hA hF hG K hK
    have e67 : a'.tmps[67]? = some (.string (mkS pre)) := hG.at hF 28 67 (hA ⟨28, .data⟩ (by simp) rfl) rfl rfl
    clear hF hA
    go_simp
    refine (HT5.out _).mono ?_
    rintro e w2 ⟨rfl, hb⟩
    exact hK _ _ (hG.next_val KP2 rfl trivial hb)
  · -- 30: add
    intro L vs a' w' hA hF hG K hK
    have e65 : a'.tmps[65]? = some (.string (mkS d6)) := hG.at hF 26 65 (hA ⟨26, .data⟩ (by simp) rfl) rfl rfl
    have e68 : a'.tmps[68]? = some (.string (mkS P1)) := hG.at hF 29 68 (hA ⟨29, .data⟩ (by simp) rfl) rfl rfl
    have hb := k7.out
    clear hF hA
    go_simp
    exact hK _ _ (hG.next_val KP2 rfl trivial (Below.refl _ _))
  · -- 31: raw
    intro L vs a' w' hA hF hG K hK
    have hmz := zeros_make w'
    clear hF hA
    go_simp
    exact hK _ _ (hG.next_mk KP2 rfl ⟨_, rfl, zeros_new _⟩ (below_alloc (Below.refl _ _) _))
  · -- 32: raw
    intro L vs a' w' hA hF hG K hK
    obtain ⟨g, hg, hY⟩ := hG.made 31 (hA ⟨31, .data⟩ (by simp) rfl)
    have e70 : a'.tmps[70]? = some (.slice (some ⟨g, 0, none⟩) 12 12) := by rw [hF.hit 31 70 (hA ⟨31, .data⟩ (by simp) rfl) rfl, hg]
    have hcv := hY.back (P := Tryz.prog) 40 9 5 12 12 rfl Tryz.underlying40 Tryz.underlying5 Tryz.underlying9
    rw [hZ12.out] at hcv
    clear hF hA
    go_simp
    exact hK _ _ (hG.next_val KP2 rfl trivial (Below.refl _ _))
  · -- 33: add
    intro L vs a' w' hA hF hG K hK
    have e69 : a'.tmps[69]? = some (.string (mkS d7)) := hG.at hF 30 69 (hA ⟨30, .data⟩ (by simp) rfl) rfl rfl
    have e71 : a'.tmps[71]? = some (.string (mkS Z12)) := hG.at hF 32 71 (hA ⟨32, .data⟩ (by simp) rfl) rfl rfl
    have hb := k8.out
    clear hF hA
    go_simp
    exact hK _ _ (hG.next_val KP2 rfl trivial (Below.refl _ _))
  · -- 34: assign
    intro L vs a' w' hA hF hG K hK
    have e72 : a'.tmps[72]? = some (.string (mkS d8)) := hG.at hF 33 72 (hA ⟨33, .data⟩ (by simp) rfl) rfl rfl
    clear hF hA
    go_simp
    exact hK _ _ (hG.next_val KP2 rfl trivial (Below.refl _ _))
  intro vs W5 hB5 _
  simp only [putL, Act.put, List.setIfInBounds_toArray, List.set_cons_zero, List.set_cons_succ]
  have HB5 := Aside0.mk (below_next HB4.out hB5 HPW.out)
  clear hB5 HB4 HT2 HT3 HT4 HT5 HF6 HF7 k1 k2 k3 k4 k5 k6 k7 k8 HH HP KP2 hZ12
  have l5 := L5.out
  have r8 := R8.out
  have lI : (c5.length : Int) = 148 := by omega
  have rI : (d8.length : Int) = 356 := by omega
  go_wp2_with fail
  go_loopw [5, 6] (fun nv iv wr => ∃ k X : Nat, k ≤ c5.length ∧ iv = .int .i64 (k : Int) ∧ nv = .int .i64 (X : Int) ∧ Aside0 (X = 256 + sumOf (c5.take k)) ∧ wr = W5) (fun _ iv _ => c5.length - (intOf iv).toNat)
  case atStart => exact ⟨0, 256, Nat.zero_le _, rfl, rfl, ⟨by simp [sumOf]⟩, rfl⟩
  case round =>
    obtain ⟨k, X, hk, rfl, rfl, HX, rfl⟩ := hrel
    have hXb : X ≤ 256 + 255 * 148 := by
      have := sumOf_le (c5.take k)
      have h2 : (c5.take k).length ≤ 148 := by rw [List.length_take]; omega
      rw [HX.out]; omega
    by_cases hlt : k < c5.length
    · have v1 : (k : Int) < 148 := by omega
      have hb0 := mkS_at hlt
      have HS := Aside0.mk (sum_take hlt)
      generalize c5.getD k 0 = b at *
      obtain ⟨q, hq⟩ : ∃ q : Nat, b.toNat = q := ⟨_, rfl⟩
      have hq2 : q < 256 := by rw [← hq]; exact UInt8.toNat_lt _
      have HS2 := Aside0.mk (show sumOf (c5.take (k + 1)) = sumOf (c5.take k) + q by rw [HS.out, hq])
      clear HS
      have hwq : IntKind.i64.wrap (b.toNat : Int) = (q : Int) := by rw [hq, IntKind.wrap_i64]; omega
      have hwq2 : wrap64 (b.toNat : Int) = (q : Int) := by rw [wrap64_eq, hwq]
      have hws : IntKind.i64.wrap ((X : Int) + (q : Int)) = ((X + q : Nat) : Int) := by rw [IntKind.wrap_i64]; omega
      go_wp2_with fail
      exact ⟨⟨k + 1, X + q, by omega, by go_num, by first | rfl | (rw [hws]) | (rw [hwq2]; rw [wrap64_eq, hws]) | (congr 1; push_cast; omega), ⟨by rw [HS2.out, HX.out]; omega⟩, trivial⟩, by simp [intOf]; omega⟩
    · obtain rfl : k = c5.length := by omega
      have v1 : ¬ (c5.length : Int) < 148 := by omega
      rw [List.take_length] at HX
      clear v1 hXb
      go_wp2_with fail
      go_loopw [5, 7] (fun nv iv w2 => ∃ k Y : Nat, k ≤ d8.length ∧ iv = .int .i64 (k : Int) ∧ nv = .int .i64 (Y : Int) ∧ Aside0 (Y = X + sumOf (d8.take k)) ∧ w2 = wr) (fun _ iv _ => d8.length - (intOf iv).toNat)
      case atStart => exact ⟨0, X, Nat.zero_le _, rfl, rfl, ⟨by simp [sumOf]⟩, rfl⟩
      case round =>
        obtain ⟨k, Y, hk2, rfl, rfl, HY, rfl⟩ := hrel
        have hYb : Y ≤ 256 + 255 * 148 + 255 * 356 := by
          have h1 := sumOf_le c5
          have h2 := sumOf_le (d8.take k)
          have h3 : (d8.take k).length ≤ 356 := by rw [List.length_take]; omega
          rw [HY.out, HX.out]; omega
        by_cases hlt : k < d8.length
        · have v1 : (k : Int) < 356 := by omega
          have hb0 := mkS_at hlt
          have HS := Aside0.mk (sum_take hlt)
          generalize d8.getD k 0 = b at *
          obtain ⟨q, hq⟩ : ∃ q : Nat, b.toNat = q := ⟨_, rfl⟩
          have hq2 : q < 256 := by rw [← hq]; exact UInt8.toNat_lt _
          have HS2 := Aside0.mk (show sumOf (d8.take (k + 1)) = sumOf (d8.take k) + q by rw [HS.out, hq])
          clear HS
          have hwq : IntKind.i64.wrap (b.toNat : Int) = (q : Int) := by rw [hq, IntKind.wrap_i64]; omega
          have hwq2 : wrap64 (b.toNat : Int) = (q : Int) := by rw [wrap64_eq, hwq]
          have hws : IntKind.i64.wrap ((Y : Int) + (q : Int)) = ((Y + q : Nat) : Int) := by rw [IntKind.wrap_i64]; omega
          go_wp2_with fail
          exact ⟨⟨k + 1, Y + q, by omega, by go_num, by first | rfl | (rw [hws]) | (rw [hwq2]; rw [wrap64_eq, hws]) | (congr 1; push_cast; omega), ⟨by rw [HS2.out, HY.out]; omega⟩, trivial⟩, by simp [intOf]; omega⟩
        · obtain rfl : k = d8.length := by omega
          have v1 : ¬ (d8.length : Int) < 356 := by omega
          rw [List.take_length] at HY
          have hY : sumN c5 d8 = Y := by unfold sumN; rw [HY.out, HX.out]
          have hlt3 := HSUM.out
          have hbt := HBT.out
          rw [hY] at hlt3 hbt
          have HO := Aside0.mk (show Calls Tryz.prog 34 #[.int .i64 (Y : Int), .int .i64 8] wr fun e w' => e = .returned (.agg #[.string (mkS (octL 8 Y)), .bool true]) ∧ Below wr.heap.size wr w' from by
            have h := rOctal_any (Y : Int) 8 wr (.inl rfl) (by omega) (by omega)
            rw [octal8_ok hlt3, if_pos rfl, Int.toNat_natCast] at h
            exact h)
          have hol : (octL 8 Y).length = 8 := octL_length 8 Y (by decide)
          have hex := octL8_tail Y
          obtain ⟨O, hO⟩ : ∃ O, octL 8 Y = O := ⟨_, rfl⟩
          rw [hO] at HO hol hex
          obtain ⟨T, hT⟩ : ∃ T, octD 6 Y ++ [0] = T := ⟨_, rfl⟩
          rw [hT] at hex
          have hTl : T.length = 7 := by rw [← hT, List.length_append, octD_length]; rfl
          have hbt2 : BT = ((c5 ++ T) ++ [32]) ++ d8 := by
            rw [hbt, ← hT]
            unfold sumT
            simp only [List.append_assoc, List.cons_append, List.nil_append]
          obtain ⟨v1', hv1⟩ : ∃ v, c5 ++ T = v := ⟨_, rfl⟩
          obtain ⟨v2', hv2⟩ : ∃ v, v1' ++ [32] = v := ⟨_, rfl⟩
          obtain ⟨v3', hv3⟩ : ∃ v, v2' ++ d8 = v := ⟨_, rfl⟩
          rw [hv1, hv2, hv3] at hbt2
          have y1 : v1'.length = 155 := by rw [← hv1, List.length_append, l5, hTl]
          have y2 : v2'.length = 156 := by rw [← hv2, List.length_append, y1]; rfl
          have y3 : v3'.length = 512 := by rw [← hv3, List.length_append, y2, r8]
          have n1 := fun W => str_add (P := Tryz.prog) (s := mkS c5) (t := mkS T) rfl rfl hv1 (by omega) W
          have n2 := fun W => str_add (P := Tryz.prog) (s := mkS v1') (t := ⟨#[32]⟩) (b := [32]) rfl rfl hv2 (by omega) W
          have n3 := fun W => str_add (P := Tryz.prog) (s := mkS v2') (t := mkS d8) rfl rfl hv3 (by omega) W
          have x1 : (mkS O).extract 1 8 = mkS T := by rw [extract_mkS, hex, List.take_of_length_le (by omega)]
          have hOI : (O.length : Int) = 8 := by omega
          have hfd : ∀ (y : ByteArray) (b : Bool) (w : World), (Instr.field 64 (.agg #[.string y, .bool b]) 0).run Tryz.prog w = .ok (.string y) w := fun _ _ _ => by kernel_rfl
          have HR := Aside0.mk hbt2
          clear hbt hbt2 hlt3 hY hYb hex hO hT hv1 hv2 hv3 HSUM HBT HX HY y1 y2 y3 hTl
          go_wp2_with fail
          refine HO.out.mono ?_
          rintro e w3 ⟨rfl, hb3⟩
          have HB6 := Aside0.mk (below_next HB5.out hb3 HPW.out)
          clear hb3 HO
          go_wp2_with fail
          go_ret
          exact ⟨by rw [HR.out]; rfl, HPE.out _ HB6.out⟩
theorem rPut_any (h : Hd) (w : World) (hi : Ints h) :
    Calls Tryz.prog 12 #[.agg (hdCells h)] w fun e w' => e = .returned (.string (mkS (putT h))) ∧ Below w.heap.size w w' := by
  cases hm : mayH h with
  | true => rw [put_of ((mayH_iff h).1 hm)]; exact rPut_ok h w hi hm
  | false => rw [put_none hm]; exact rPut_no h w hi hm
end Go.Proofs.YtpmiddhdgidimaaGreatDoor
namespace Go.Proofs.YtpmiddhdgidimaaGreatDoor
open Go.RowKit Go.Proofs.YtpmiddhdgidimaaGreatDoorW.PrintWords

/-- What GetHead gives, as a struct of a header and a number (its cells in a row). -/
def gotR (r : Except Int Hd) : Value := match r with
  | .ok h => .agg ((hdCells h).push (.int .i64 0))
  | .error n => .agg ((hdCells hd0).push (.int .i64 n))
def got0 : Array Value := #[.string ⟨#[]⟩, .int .i64 0, .int .i64 0, .int .i64 0, .int .i64 0, .int .i64 0, .int .u8 0, .string ⟨#[]⟩, .string ⟨#[]⟩, .string ⟨#[]⟩, .int .i64 0, .int .i64 0, .string ⟨#[]⟩, .int .i64 0]
set_option maxRecDepth 100000 in
theorem rget_res (p : Nat) (x0 x1 x2 x3 x4 x5 x6 x7 x8 x9 x10 x11 x12 v : Value) (tmps : Array Value) (W : World) (t2 : tmps.getD 2 undef = .pointer (some ⟨p, 0, none⟩))
    (H : W.heap[p]? = some (.cells #[x0, x1, x2, x3, x4, x5, x6, x7, x8, x9, x10, x11, x12, v] 29)) :
    (results Tryz.f6 tmps).run Tryz.prog W = .ok (.agg #[x0, x1, x2, x3, x4, x5, x6, x7, x8, x9, x10, x11, x12, v]) W := by
  have c0 : W.cell? ⟨p, 0, none⟩ = some x0 := blk_cell H 0
  have c1 : W.cell? ⟨p, 1, none⟩ = some x1 := blk_cell H 1
  have c2 : W.cell? ⟨p, 2, none⟩ = some x2 := blk_cell H 2
  have c3 : W.cell? ⟨p, 3, none⟩ = some x3 := blk_cell H 3
  have c4 : W.cell? ⟨p, 4, none⟩ = some x4 := blk_cell H 4
  have c5 : W.cell? ⟨p, 5, none⟩ = some x5 := blk_cell H 5
  have c6 : W.cell? ⟨p, 6, none⟩ = some x6 := blk_cell H 6
  have c7 : W.cell? ⟨p, 7, none⟩ = some x7 := blk_cell H 7
  have c8 : W.cell? ⟨p, 8, none⟩ = some x8 := blk_cell H 8
  have c9 : W.cell? ⟨p, 9, none⟩ = some x9 := blk_cell H 9
  have c10 : W.cell? ⟨p, 10, none⟩ = some x10 := blk_cell H 10
  have c11 : W.cell? ⟨p, 11, none⟩ = some x11 := blk_cell H 11
  have c12 : W.cell? ⟨p, 12, none⟩ = some x12 := blk_cell H 12
  have c13 : W.cell? ⟨p, 13, none⟩ = some v := blk_cell H 13
  clear H
  replace t2 : tmps[2]?.getD undef = .pointer (some ⟨p, 0, none⟩) := by simpa using t2
  simp only [results, Tryz.results6]
  simp [Sem.run_bind, Result.andThen, t2, go_sem, c0, c1, c2, c3, c4, c5, c6, c7, c8, c9, c10, c11, c12, c13]
/- What the long region makes. -/
def getX (B : Nat) (F : Array Value) (L : Nat → Bool) (vs : Nat → Value) (w : World) : Prop :=
  (L 47 = true → L 46 = true) ∧ (L 46 = true → ∃ q, vs 46 = .pointer (some ⟨q, 0, none⟩) ∧ B ≤ q ∧ w.heap[q]? = some (.cells (if L 47 = true then F else #[.string ⟨#[]⟩, .int .i64 0, .int .i64 0, .int .i64 0, .int .i64 0, .int .i64 0, .int .u8 0, .string ⟨#[]⟩, .string ⟨#[]⟩, .string ⟨#[]⟩, .int .i64 0, .int .i64 0, .string ⟨#[]⟩]) 23))
theorem getX_step {B : Nat} {F : Array Value} {L : Nat → Bool} {vs : Nat → Value} {w w' : World} {i : Nat} {v : Value} (h : getX B F L vs w) (h46 : i ≠ 46) (h47 : i ≠ 47) (hb : Below w.heap.size w w') : getX B F (upd L i true) (upd vs i v) w' := by
  unfold getX
  rw [upd, upd, upd, if_neg (Ne.symm h46), if_neg (Ne.symm h47), if_neg (Ne.symm h46)]
  refine ⟨h.1, fun hL => ?_⟩
  obtain ⟨q, h1, h2, h3⟩ := h.2 hL
  exact ⟨q, h1, h2, (hb.block q (blk_lt h3)).trans h3⟩
theorem getX_alloc {B : Nat} {F : Array Value} {L : Nat → Bool} {vs : Nat → Value} {w : World} (h : getX B F L vs w) (hL : L 46 = false) (hB : B ≤ w.heap.size) : getX B F (upd L 46 true) (upd vs 46 (.pointer (some ⟨w.heap.size, 0, none⟩))) (w.alloc (.cells #[.string ⟨#[]⟩, .int .i64 0, .int .i64 0, .int .i64 0, .int .i64 0, .int .i64 0, .int .u8 0, .string ⟨#[]⟩, .string ⟨#[]⟩, .string ⟨#[]⟩, .int .i64 0, .int .i64 0, .string ⟨#[]⟩] 23)) := by
  have h47 : ¬ L 47 = true := fun e => by rw [h.1 e] at hL; cases hL
  unfold getX
  rw [upd, upd, upd, if_pos rfl, if_neg (by decide), if_pos rfl]
  exact ⟨fun _ => rfl, fun _ => ⟨_, rfl, hB, by rw [if_neg h47]; exact heap_alloc_new w _⟩⟩
theorem getX_store {B : Nat} {F : Array Value} {L : Nat → Bool} {vs : Nat → Value} {w : World} {q : Nat} {v : Value} (hq : vs 46 = .pointer (some ⟨q, 0, none⟩)) (h46 : L 46 = true) (hqb : B ≤ q) (hw : w.heap[q]? = some (.cells F 23)) : getX B F (upd L 47 true) (upd vs 47 v) w := by
  unfold getX
  rw [upd, upd, upd, if_pos rfl, if_neg (by decide), if_neg (by decide)]
  exact ⟨fun _ => h46, fun _ => ⟨q, hq, hqb, by rw [if_pos rfl]; exact hw⟩⟩
theorem all_zero {S : List UInt8} {n : Nat} (hl : S.length = n) : (S.all (fun c => c == 0) = true) ↔ S = List.replicate n 0 := by
  rw [List.eq_replicate_iff, List.all_eq_true]
  constructor
  · intro h; exact ⟨hl, fun b hb => by simpa using h b hb⟩
  · rintro ⟨_, h⟩ x hx; simpa using h x hx
set_option maxHeartbeats 4000000 in
set_option maxRecDepth 100000 in
theorem rget_more (s : List UInt8) (w : World) (hs : s.length < 512) :
    Calls Tryz.prog 6 #[.string (mkS s)] w fun e w' => e = .returned (gotR (.error 5)) ∧ Below w.heap.size w w' := by
  have y0 : (s.length : Int) < 512 := by omega
  go_enter Tryz.func6, Tryz.ntmps6
  go_wp2_with fail
  refine bodyPost_ret (rget_res w.heap.size _ _ _ _ _ _ _ _ _ _ _ _ _ _ _ _ rfl (heap_alloc_new w _)) rfl ?_
  exact ⟨rfl, below_alloc (Below.refl _ _) _⟩
set_option maxHeartbeats 4000000 in
set_option maxRecDepth 100000 in
theorem rget_none (s S : List UInt8) (hS : s.take 512 = S) (h1 : 512 ≤ s.length) (hz : S.all (fun c => c == 0) = true) (w : World) :
    Calls Tryz.prog 6 #[.string (mkS s)] w fun e w' => e = .returned (gotR (.error 2)) ∧ Below w.heap.size w w' := by
  have y0 : ¬ (s.length : Int) < 512 := by omega
  have y1 : (512 : Int) ≤ s.length := by omega
  have x1 : (mkS s).extract 0 512 = mkS S := by rw [extract_mkS, ← hS, List.drop_zero]
  have hL : S.length = 512 := by rw [← hS, List.length_take]; omega
  have hZ := (all_zero hL).1 hz
  obtain ⟨W, hm, hbz, hsz, hcv⟩ := zeros_world 512 (by decide) (w.alloc (.cells got0 29))
  rw [show ((512 : Nat) : Int) = 512 from rfl] at hm
  rw [← hZ] at hcv
  have H := heap_alloc_new w (.cells got0 29)
  have H2 := Aside0.mk ((hbz.block _ (blk_lt H)).trans H)
  have B2 := Aside0.mk (below_next (below_alloc (Below.refl w.heap.size w) (.cells got0 29)) hbz)
  have hsz2 : (w.alloc (.cells got0 29)).heap.size = w.heap.size + 1 := by simp
  clear hbz H hZ hz hS
  have r0 : W.cell? ⟨w.heap.size, 0, none⟩ = some (.string ⟨#[]⟩) := blk_cell H2.out 0
  have g0 := blk_frozen H2.out 0
  have r1 : W.cell? ⟨w.heap.size, 1, none⟩ = some (.int .i64 0) := blk_cell H2.out 1
  have g1 := blk_frozen H2.out 1
  have r2 : W.cell? ⟨w.heap.size, 2, none⟩ = some (.int .i64 0) := blk_cell H2.out 2
  have g2 := blk_frozen H2.out 2
  have r3 : W.cell? ⟨w.heap.size, 3, none⟩ = some (.int .i64 0) := blk_cell H2.out 3
  have g3 := blk_frozen H2.out 3
  have r4 : W.cell? ⟨w.heap.size, 4, none⟩ = some (.int .i64 0) := blk_cell H2.out 4
  have g4 := blk_frozen H2.out 4
  have r5 : W.cell? ⟨w.heap.size, 5, none⟩ = some (.int .i64 0) := blk_cell H2.out 5
  have g5 := blk_frozen H2.out 5
  have r6 : W.cell? ⟨w.heap.size, 6, none⟩ = some (.int .u8 0) := blk_cell H2.out 6
  have g6 := blk_frozen H2.out 6
  have r7 : W.cell? ⟨w.heap.size, 7, none⟩ = some (.string ⟨#[]⟩) := blk_cell H2.out 7
  have g7 := blk_frozen H2.out 7
  have r8 : W.cell? ⟨w.heap.size, 8, none⟩ = some (.string ⟨#[]⟩) := blk_cell H2.out 8
  have g8 := blk_frozen H2.out 8
  have r9 : W.cell? ⟨w.heap.size, 9, none⟩ = some (.string ⟨#[]⟩) := blk_cell H2.out 9
  have g9 := blk_frozen H2.out 9
  have r10 : W.cell? ⟨w.heap.size, 10, none⟩ = some (.int .i64 0) := blk_cell H2.out 10
  have g10 := blk_frozen H2.out 10
  have r11 : W.cell? ⟨w.heap.size, 11, none⟩ = some (.int .i64 0) := blk_cell H2.out 11
  have g11 := blk_frozen H2.out 11
  have r12 : W.cell? ⟨w.heap.size, 12, none⟩ = some (.string ⟨#[]⟩) := blk_cell H2.out 12
  have g12 := blk_frozen H2.out 12
  have r13 : W.cell? ⟨w.heap.size, 13, none⟩ = some (.int .i64 0) := blk_cell H2.out 13
  have g13 := blk_frozen H2.out 13
  have lr := blk_lt H2.out
  unfold got0 at *
  rw [hsz2] at hm hcv
  go_enter Tryz.func6, Tryz.ntmps6
  go_wp2_with fail
  have a0 := H2.out
  have a1 := blk_hit (i := 0) (v := .string ⟨#[]⟩) a0
  simp only [List.setIfInBounds_toArray, List.set_cons_zero, List.set_cons_succ] at a1
  have a2 := blk_hit (i := 1) (v := .int .i64 0) a1
  simp only [List.setIfInBounds_toArray, List.set_cons_zero, List.set_cons_succ] at a2
  have a3 := blk_hit (i := 2) (v := .int .i64 0) a2
  simp only [List.setIfInBounds_toArray, List.set_cons_zero, List.set_cons_succ] at a3
  have a4 := blk_hit (i := 3) (v := .int .i64 0) a3
  simp only [List.setIfInBounds_toArray, List.set_cons_zero, List.set_cons_succ] at a4
  have a5 := blk_hit (i := 4) (v := .int .i64 0) a4
  simp only [List.setIfInBounds_toArray, List.set_cons_zero, List.set_cons_succ] at a5
  have a6 := blk_hit (i := 5) (v := .int .i64 0) a5
  simp only [List.setIfInBounds_toArray, List.set_cons_zero, List.set_cons_succ] at a6
  have a7 := blk_hit (i := 6) (v := .int .u8 0) a6
  simp only [List.setIfInBounds_toArray, List.set_cons_zero, List.set_cons_succ] at a7
  have a8 := blk_hit (i := 7) (v := .string ⟨#[]⟩) a7
  simp only [List.setIfInBounds_toArray, List.set_cons_zero, List.set_cons_succ] at a8
  have a9 := blk_hit (i := 8) (v := .string ⟨#[]⟩) a8
  simp only [List.setIfInBounds_toArray, List.set_cons_zero, List.set_cons_succ] at a9
  have a10 := blk_hit (i := 9) (v := .string ⟨#[]⟩) a9
  simp only [List.setIfInBounds_toArray, List.set_cons_zero, List.set_cons_succ] at a10
  have a11 := blk_hit (i := 10) (v := .int .i64 0) a10
  simp only [List.setIfInBounds_toArray, List.set_cons_zero, List.set_cons_succ] at a11
  have a12 := blk_hit (i := 11) (v := .int .i64 0) a11
  simp only [List.setIfInBounds_toArray, List.set_cons_zero, List.set_cons_succ] at a12
  have a13 := blk_hit (i := 12) (v := .string ⟨#[]⟩) a12
  simp only [List.setIfInBounds_toArray, List.set_cons_zero, List.set_cons_succ] at a13
  have a14 := blk_hit (i := 13) (v := .int .i64 2) a13
  simp only [List.setIfInBounds_toArray, List.set_cons_zero, List.set_cons_succ] at a14
  refine bodyPost_ret (rget_res w.heap.size _ _ _ _ _ _ _ _ _ _ _ _ _ _ _ _ rfl a14) rfl ?_
  exact ⟨rfl, (Below.setCell (Below.setCell (Below.setCell (Below.setCell (Below.setCell (Below.setCell (Below.setCell (Below.setCell (Below.setCell (Below.setCell (Below.setCell (Below.setCell (Below.setCell (Below.setCell B2.out (Nat.le_refl _) _) (Nat.le_refl _) _) (Nat.le_refl _) _) (Nat.le_refl _) _) (Nat.le_refl _) _) (Nat.le_refl _) _) (Nat.le_refl _) _) (Nat.le_refl _) _) (Nat.le_refl _) _) (Nat.le_refl _) _) (Nat.le_refl _) _) (Nat.le_refl _) _) (Nat.le_refl _) _) (Nat.le_refl _) _)⟩
set_option maxHeartbeats 40000000 in
set_option maxRecDepth 100000 in
theorem rget_main (s S : List UInt8) (hS : s.take 512 = S) (h1 : 512 ≤ s.length) (hz : ¬ S.all (fun c => c == 0) = true) (w : World) :
    Calls Tryz.prog 6 #[.string (mkS s)] w fun e w' => e = .returned (gotR (if putT (readH0 S) = S then .ok (readH0 S) else .error 4)) ∧ Below w.heap.size w w' := by
  obtain ⟨R, hR⟩ : ∃ R, R = gotR (if putT (readH0 S) = S then .ok (readH0 S) else .error 4) := ⟨_, rfl⟩
  rw [← hR]
  have HR := Aside0.mk hR
  clear hR
  have y0 : ¬ (s.length : Int) < 512 := by omega
  have y1 : (512 : Int) ≤ s.length := by omega
  have x1 : (mkS s).extract 0 512 = mkS S := by rw [extract_mkS, ← hS, List.drop_zero]
  have hL : S.length = 512 := by rw [← hS, List.length_take]; omega
  have hLI : (S.length : Int) = 512 := by omega
  obtain ⟨Z, hZ⟩ : ∃ Z, List.replicate 512 (0 : UInt8) = Z := ⟨_, rfl⟩
  have hne : (S == Z) = false := beq_eq_false_iff_ne.2 (fun e => hz ((all_zero hL).2 (by rw [hZ]; exact e)))
  obtain ⟨W, hm, hbz, hsz, hcv⟩ := zeros_world 512 (by decide) (w.alloc (.cells got0 29))
  rw [show ((512 : Nat) : Int) = 512 from rfl] at hm
  rw [hZ] at hcv
  have H := heap_alloc_new w (.cells got0 29)
  have H2 := Aside0.mk ((hbz.block _ (blk_lt H)).trans H)
  have B2 := Aside0.mk (below_next (below_alloc (Below.refl w.heap.size w) (.cells got0 29)) hbz)
  have hsz2 : (w.alloc (.cells got0 29)).heap.size = w.heap.size + 1 := by simp
  clear hbz H hz hS hZ
  have hi := readH0_ints hL
  have txt := fun (a b : Nat) (p x : List UInt8) (hp : part S a b = p) (hx : ahead p = x) => Aside0.mk (fun W => show Calls Tryz.prog 21 #[.string (mkS p)] W fun e w' => e = .returned (.string (mkS x)) ∧ w' = W from by
    rw [← hx]
    exact rText_any p W (by rw [← hp]; unfold part; rw [List.length_take]; rw [List.length_drop]; omega))
  have num := fun (a b : Nat) (p : List UInt8) (n : Int) (o : Bool) (hb : b = 8 ∨ b = 12) (hab : a + b ≤ 512) (hp : part S a b = p) (hn : numAt0 S a b = n) (ho : (numAt S a b).isSome = o) => Aside0.mk (fun W => show Calls Tryz.prog 22 #[.string (mkS p)] W fun e w' => e = .returned (.agg #[.int .i64 n, .bool o]) ∧ Below W.heap.size W w' from by
    have := rReadField_any p W (by rw [← hp]; unfold part; rw [List.length_take, List.length_drop]; omega)
    rw [show numR (readFieldT p) = .agg #[.int .i64 n, .bool o] by rw [← hn, ← ho, ← hp]; rfl] at this
    exact this)
  have hrd : readH0 S = ⟨ahead (part S 0 100), numAt0 S 100 8, numAt0 S 108 8, numAt0 S 116 8, numAt0 S 124 12, numAt0 S 136 12, S.getD 156 0, ahead (part S 157 100), ahead (part S 265 32), ahead (part S 297 32), numAt0 S 329 8, numAt0 S 337 8, ahead (part S 345 155)⟩ := rfl
  obtain ⟨p0, hp0⟩ : ∃ x, part S 0 100 = x := ⟨_, rfl⟩
  obtain ⟨p1, hp1⟩ : ∃ x, part S 100 8 = x := ⟨_, rfl⟩
  obtain ⟨p2, hp2⟩ : ∃ x, part S 108 8 = x := ⟨_, rfl⟩
  obtain ⟨p3, hp3⟩ : ∃ x, part S 116 8 = x := ⟨_, rfl⟩
  obtain ⟨p4, hp4⟩ : ∃ x, part S 124 12 = x := ⟨_, rfl⟩
  obtain ⟨p5, hp5⟩ : ∃ x, part S 136 12 = x := ⟨_, rfl⟩
  obtain ⟨p6, hp6⟩ : ∃ x, part S 157 100 = x := ⟨_, rfl⟩
  obtain ⟨p7, hp7⟩ : ∃ x, part S 265 32 = x := ⟨_, rfl⟩
  obtain ⟨p8, hp8⟩ : ∃ x, part S 297 32 = x := ⟨_, rfl⟩
  obtain ⟨p9, hp9⟩ : ∃ x, part S 329 8 = x := ⟨_, rfl⟩
  obtain ⟨p10, hp10⟩ : ∃ x, part S 337 8 = x := ⟨_, rfl⟩
  obtain ⟨p11, hp11⟩ : ∃ x, part S 345 155 = x := ⟨_, rfl⟩
  have Xp0 := Aside0.mk (show (mkS S).extract 0 100 = mkS p0 by rw [extract_mkS, ← hp0]; rfl)
  have Xp1 := Aside0.mk (show (mkS S).extract 100 108 = mkS p1 by rw [extract_mkS, ← hp1]; rfl)
  have Xp2 := Aside0.mk (show (mkS S).extract 108 116 = mkS p2 by rw [extract_mkS, ← hp2]; rfl)
  have Xp3 := Aside0.mk (show (mkS S).extract 116 124 = mkS p3 by rw [extract_mkS, ← hp3]; rfl)
  have Xp4 := Aside0.mk (show (mkS S).extract 124 136 = mkS p4 by rw [extract_mkS, ← hp4]; rfl)
  have Xp5 := Aside0.mk (show (mkS S).extract 136 148 = mkS p5 by rw [extract_mkS, ← hp5]; rfl)
  have Xp6 := Aside0.mk (show (mkS S).extract 157 257 = mkS p6 by rw [extract_mkS, ← hp6]; rfl)
  have Xp7 := Aside0.mk (show (mkS S).extract 265 297 = mkS p7 by rw [extract_mkS, ← hp7]; rfl)
  have Xp8 := Aside0.mk (show (mkS S).extract 297 329 = mkS p8 by rw [extract_mkS, ← hp8]; rfl)
  have Xp9 := Aside0.mk (show (mkS S).extract 329 337 = mkS p9 by rw [extract_mkS, ← hp9]; rfl)
  have Xp10 := Aside0.mk (show (mkS S).extract 337 345 = mkS p10 by rw [extract_mkS, ← hp10]; rfl)
  have Xp11 := Aside0.mk (show (mkS S).extract 345 500 = mkS p11 by rw [extract_mkS, ← hp11]; rfl)
  rw [hp0, hp6, hp7, hp8, hp11] at hrd
  obtain ⟨nm, hnm⟩ : ∃ x, ahead p0 = x := ⟨_, rfl⟩
  obtain ⟨lk, hlk⟩ : ∃ x, ahead p6 = x := ⟨_, rfl⟩
  obtain ⟨un, hun⟩ : ∃ x, ahead p7 = x := ⟨_, rfl⟩
  obtain ⟨gn, hgn⟩ : ∃ x, ahead p8 = x := ⟨_, rfl⟩
  obtain ⟨pr, hpr⟩ : ∃ x, ahead p11 = x := ⟨_, rfl⟩
  obtain ⟨ty, hty⟩ : ∃ x, S.getD 156 0 = x := ⟨_, rfl⟩
  obtain ⟨m, hm1⟩ : ∃ x, numAt0 S 100 8 = x := ⟨_, rfl⟩
  obtain ⟨u, hu1⟩ : ∃ x, numAt0 S 108 8 = x := ⟨_, rfl⟩
  obtain ⟨g, hg1⟩ : ∃ x, numAt0 S 116 8 = x := ⟨_, rfl⟩
  obtain ⟨z, hz1⟩ : ∃ x, numAt0 S 124 12 = x := ⟨_, rfl⟩
  obtain ⟨t, ht1⟩ : ∃ x, numAt0 S 136 12 = x := ⟨_, rfl⟩
  obtain ⟨ma, hma⟩ : ∃ x, numAt0 S 329 8 = x := ⟨_, rfl⟩
  obtain ⟨mi, hmi⟩ : ∃ x, numAt0 S 337 8 = x := ⟨_, rfl⟩
  obtain ⟨bm, hbm⟩ : ∃ x, (numAt S 100 8).isSome = x := ⟨_, rfl⟩
  obtain ⟨bu, hbu⟩ : ∃ x, (numAt S 108 8).isSome = x := ⟨_, rfl⟩
  obtain ⟨bg, hbg⟩ : ∃ x, (numAt S 116 8).isSome = x := ⟨_, rfl⟩
  obtain ⟨bz, hbz⟩ : ∃ x, (numAt S 124 12).isSome = x := ⟨_, rfl⟩
  obtain ⟨bt, hbt⟩ : ∃ x, (numAt S 136 12).isSome = x := ⟨_, rfl⟩
  obtain ⟨bma, hbma⟩ : ∃ x, (numAt S 329 8).isSome = x := ⟨_, rfl⟩
  obtain ⟨bmi, hbmi⟩ : ∃ x, (numAt S 337 8).isSome = x := ⟨_, rfl⟩
  have Hnm := txt 0 100 p0 nm hp0 hnm
  have Hlk := txt 157 100 p6 lk hp6 hlk
  have Hun := txt 265 32 p7 un hp7 hun
  have Hgn := txt 297 32 p8 gn hp8 hgn
  have Hpr := txt 345 155 p11 pr hp11 hpr
  have Hm := num 100 8 p1 m bm (.inl rfl) (by decide) hp1 hm1 hbm
  have Hu := num 108 8 p2 u bu (.inl rfl) (by decide) hp2 hu1 hbu
  have Hg := num 116 8 p3 g bg (.inl rfl) (by decide) hp3 hg1 hbg
  have Hz := num 124 12 p4 z bz (.inr rfl) (by decide) hp4 hz1 hbz
  have Ht := num 136 12 p5 t bt (.inr rfl) (by decide) hp5 ht1 hbt
  have Hma := num 329 8 p9 ma bma (.inl rfl) (by decide) hp9 hma hbma
  have Hmi := num 337 8 p10 mi bmi (.inl rfl) (by decide) hp10 hmi hbmi
  have HTY := Aside0.mk (show ∀ h, (mkS S)[156]'h = ty from by rw [← hty]; exact mkS_at (by omega))
  rw [hnm, hlk, hun, hgn, hpr, hty, hm1, hu1, hg1, hz1, ht1, hma, hmi] at hrd
  rw [hrd] at hi
  have HRD := Aside0.mk hrd
  have HI := Aside0.mk hi
  clear txt num hnm hlk hun hgn hpr hty hm1 hu1 hg1 hz1 ht1 hma hmi hbm hbu hbg hbz hbt hbma hbmi hrd hi hp0 hp1 hp2 hp3 hp4 hp5 hp6 hp7 hp8 hp9 hp10 hp11
  unfold got0 at *
  rw [hsz2] at hm hcv
  go_enter Tryz.func6, Tryz.ntmps6
  go_wp2_with fail
  clear hm hcv hsz hne x1 y0 y1 hsz2
  refine wp_region_listX (by kernel_rfl) (by kernel_rfl) (fun j => ([some (.string (mkS S)), some (.string (mkS p0)), some (.string (mkS nm)), some (.string (mkS S)), some (.string (mkS p1)), some (.agg #[.int .i64 m, .bool bm]), some (.int .i64 m), some (.string (mkS S)), some (.string (mkS p2)), some (.agg #[.int .i64 u, .bool bu]), some (.int .i64 u), some (.string (mkS S)), some (.string (mkS p3)), some (.agg #[.int .i64 g, .bool bg]), some (.int .i64 g), some (.string (mkS S)), some (.string (mkS p4)), some (.agg #[.int .i64 z, .bool bz]), some (.int .i64 z), some (.string (mkS S)), some (.string (mkS p5)), some (.agg #[.int .i64 t, .bool bt]), some (.int .i64 t), some (.string (mkS S)), some (.int .u8 (ty.toNat : Int)), some (.string (mkS S)), some (.string (mkS p6)), some (.string (mkS lk)), some (.string (mkS S)), some (.string (mkS p7)), some (.string (mkS un)), some (.string (mkS S)), some (.string (mkS p8)), some (.string (mkS gn)), some (.string (mkS S)), some (.string (mkS p9)), some (.agg #[.int .i64 ma, .bool bma]), some (.int .i64 ma), some (.string (mkS S)), some (.string (mkS p10)), some (.agg #[.int .i64 mi, .bool bmi]), some (.int .i64 mi), some (.string (mkS S)), some (.string (mkS p11)), some (.string (mkS pr)), some (.agg #[.string (mkS nm), .int .i64 m, .int .i64 u, .int .i64 g, .int .i64 z, .int .i64 t, .int .u8 (ty.toNat : Int), .string (mkS lk), .string (mkS un), .string (mkS gn), .int .i64 ma, .int .i64 mi, .string (mkS pr)]), none, none] : List (Option Value)).getD j none) (by kernel_rfl) (getX W.heap.size #[.string (mkS nm), .int .i64 m, .int .i64 u, .int .i64 g, .int .i64 z, .int .i64 t, .int .u8 (ty.toNat : Int), .string (mkS lk), .string (mkS un), .string (mkS gn), .int .i64 ma, .int .i64 mi, .string (mkS pr)]) (fun vs => [(some 15, .string (mkS S)), (some 16, .string (mkS p0)), (some 17, .string (mkS nm)), (some 18, .string (mkS S)), (some 19, .string (mkS p1)), (some 20, .agg #[.int .i64 m, .bool bm]), (some 21, .int .i64 m), (some 22, .string (mkS S)), (some 23, .string (mkS p2)), (some 24, .agg #[.int .i64 u, .bool bu]), (some 25, .int .i64 u), (some 26, .string (mkS S)), (some 27, .string (mkS p3)), (some 28, .agg #[.int .i64 g, .bool bg]), (some 29, .int .i64 g), (some 30, .string (mkS S)), (some 31, .string (mkS p4)), (some 32, .agg #[.int .i64 z, .bool bz]), (some 33, .int .i64 z), (some 34, .string (mkS S)), (some 35, .string (mkS p5)), (some 36, .agg #[.int .i64 t, .bool bt]), (some 37, .int .i64 t), (some 38, .string (mkS S)), (some 39, .int .u8 (ty.toNat : Int)), (some 40, .string (mkS S)), (some 41, .string (mkS p6)), (some 42, .string (mkS lk)), (some 43, .string (mkS S)), (some 44, .string (mkS p7)), (some 45, .string (mkS un)), (some 46, .string (mkS S)), (some 47, .string (mkS p8)), (some 48, .string (mkS gn)), (some 49, .string (mkS S)), (some 50, .string (mkS p9)), (some 51, .agg #[.int .i64 ma, .bool bma]), (some 52, .int .i64 ma), (some 53, .string (mkS S)), (some 54, .string (mkS p10)), (some 55, .agg #[.int .i64 mi, .bool bmi]), (some 56, .int .i64 mi), (some 57, .string (mkS S)), (some 58, .string (mkS p11)), (some 59, .string (mkS pr)), (some 60, .agg #[.string (mkS nm), .int .i64 m, .int .i64 u, .int .i64 g, .int .i64 z, .int .i64 t, .int .u8 (ty.toNat : Int), .string (mkS lk), .string (mkS un), .string (mkS gn), .int .i64 ma, .int .i64 mi, .string (mkS pr)]), (some 3, vs 46), (none, vs 47)]) (fun _ => by kernel_rfl) ⟨fun h => (nomatch h), fun h => (nomatch h)⟩ (AllAt.cons ?_ (AllAt.cons ?_ (AllAt.cons ?_ (AllAt.cons ?_ (AllAt.cons ?_ (AllAt.cons ?_ (AllAt.cons ?_ (AllAt.cons ?_ (AllAt.cons ?_ (AllAt.cons ?_ (AllAt.cons ?_ (AllAt.cons ?_ (AllAt.cons ?_ (AllAt.cons ?_ (AllAt.cons ?_ (AllAt.cons ?_ (AllAt.cons ?_ (AllAt.cons ?_ (AllAt.cons ?_ (AllAt.cons ?_ (AllAt.cons ?_ (AllAt.cons ?_ (AllAt.cons ?_ (AllAt.cons ?_ (AllAt.cons ?_ (AllAt.cons ?_ (AllAt.cons ?_ (AllAt.cons ?_ (AllAt.cons ?_ (AllAt.cons ?_ (AllAt.cons ?_ (AllAt.cons ?_ (AllAt.cons ?_ (AllAt.cons ?_ (AllAt.cons ?_ (AllAt.cons ?_ (AllAt.cons ?_ (AllAt.cons ?_ (AllAt.cons ?_ (AllAt.cons ?_ (AllAt.cons ?_ (AllAt.cons ?_ (AllAt.cons ?_ (AllAt.cons ?_ (AllAt.cons ?_ (AllAt.cons ?_ (AllAt.cons ?_ (AllAt.cons ?_ (AllAt.nil))))))))))))))))))))))))))))))))))))))))))))))))) ?_
  · -- 0: move
    intro L vs a' w' hL hA hF hG K hK
    have e0 : a'.tmps[0]? = some (.string (mkS S)) := hF.old rfl (by kernel_rfl)
    clear hF hA hL
    go_simp
    exact hK _ _ (hG.next_val rfl (getX_step hG.ex (by decide) (by decide) (Below.refl _ _)) (Below.refl _ _))
  · -- 1: slice
    intro L vs a' w' hL hA hF hG K hK
    have e15 : a'.tmps[15]? = some (.string (mkS S)) := hG.at hF 0 15 (hA ⟨0, .data⟩ (by simp) rfl) rfl rfl
    have hx := Xp0.out
    clear hF hA hL
    go_simp
    exact hK _ _ (hG.next_val rfl (getX_step hG.ex (by decide) (by decide) (Below.refl _ _)) (Below.refl _ _))
  · -- 2: text
    intro L vs a' w' hL hA hF hG K hK
    have e16 : a'.tmps[16]? = some (.string (mkS p0)) := hG.at hF 1 16 (hA ⟨1, .data⟩ (by simp) rfl) rfl rfl
    clear hF hA hL
    go_simp
    refine (Hnm.out _).mono ?_
    rintro e w2 ⟨rfl, rfl⟩
    exact hK _ _ (hG.next_val rfl (getX_step hG.ex (by decide) (by decide) (Below.refl _ _)) (Below.refl _ _))
  · -- 3: move
    intro L vs a' w' hL hA hF hG K hK
    have e0 : a'.tmps[0]? = some (.string (mkS S)) := hF.old rfl (by kernel_rfl)
    clear hF hA hL
    go_simp
    exact hK _ _ (hG.next_val rfl (getX_step hG.ex (by decide) (by decide) (Below.refl _ _)) (Below.refl _ _))
  · -- 4: slice
    intro L vs a' w' hL hA hF hG K hK
    have e18 : a'.tmps[18]? = some (.string (mkS S)) := hG.at hF 3 18 (hA ⟨3, .data⟩ (by simp) rfl) rfl rfl
    have hx := Xp1.out
    clear hF hA hL
    go_simp
    exact hK _ _ (hG.next_val rfl (getX_step hG.ex (by decide) (by decide) (Below.refl _ _)) (Below.refl _ _))
  · -- 5: num
    intro L vs a' w' hL hA hF hG K hK
    have e19 : a'.tmps[19]? = some (.string (mkS p1)) := hG.at hF 4 19 (hA ⟨4, .data⟩ (by simp) rfl) rfl rfl
    clear hF hA hL
    go_simp
    refine (Hm.out _).mono ?_
    rintro e w2 ⟨rfl, hb⟩
    exact hK _ _ (hG.next_val rfl (getX_step hG.ex (by decide) (by decide) hb) hb)
  · -- 6: field
    intro L vs a' w' hL hA hF hG K hK
    have e20 : a'.tmps[20]? = some (.agg #[.int .i64 m, .bool bm]) := hG.at hF 5 20 (hA ⟨5, .data⟩ (by simp) rfl) rfl rfl
    have hfd : ∀ (y : Int) (b : Bool) (w : World), (Instr.field 52 (.agg #[.int .i64 y, .bool b]) 0).run Tryz.prog w = .ok (.int .i64 y) w := fun _ _ _ => by kernel_rfl
    clear hF hA hL
    go_simp
    exact hK _ _ (hG.next_val rfl (getX_step hG.ex (by decide) (by decide) (Below.refl _ _)) (Below.refl _ _))
  · -- 7: move
    intro L vs a' w' hL hA hF hG K hK
    have e0 : a'.tmps[0]? = some (.string (mkS S)) := hF.old rfl (by kernel_rfl)
    clear hF hA hL
    go_simp
    exact hK _ _ (hG.next_val rfl (getX_step hG.ex (by decide) (by decide) (Below.refl _ _)) (Below.refl _ _))
  · -- 8: slice
    intro L vs a' w' hL hA hF hG K hK
    have e22 : a'.tmps[22]? = some (.string (mkS S)) := hG.at hF 7 22 (hA ⟨7, .data⟩ (by simp) rfl) rfl rfl
    have hx := Xp2.out
    clear hF hA hL
    go_simp
    exact hK _ _ (hG.next_val rfl (getX_step hG.ex (by decide) (by decide) (Below.refl _ _)) (Below.refl _ _))
  · -- 9: num
    intro L vs a' w' hL hA hF hG K hK
    have e23 : a'.tmps[23]? = some (.string (mkS p2)) := hG.at hF 8 23 (hA ⟨8, .data⟩ (by simp) rfl) rfl rfl
    clear hF hA hL
    go_simp
    refine (Hu.out _).mono ?_
    rintro e w2 ⟨rfl, hb⟩
    exact hK _ _ (hG.next_val rfl (getX_step hG.ex (by decide) (by decide) hb) hb)
  · -- 10: field
    intro L vs a' w' hL hA hF hG K hK
    have e24 : a'.tmps[24]? = some (.agg #[.int .i64 u, .bool bu]) := hG.at hF 9 24 (hA ⟨9, .data⟩ (by simp) rfl) rfl rfl
    have hfd : ∀ (y : Int) (b : Bool) (w : World), (Instr.field 52 (.agg #[.int .i64 y, .bool b]) 0).run Tryz.prog w = .ok (.int .i64 y) w := fun _ _ _ => by kernel_rfl
    clear hF hA hL
    go_simp
    exact hK _ _ (hG.next_val rfl (getX_step hG.ex (by decide) (by decide) (Below.refl _ _)) (Below.refl _ _))
  · -- 11: move
    intro L vs a' w' hL hA hF hG K hK
    have e0 : a'.tmps[0]? = some (.string (mkS S)) := hF.old rfl (by kernel_rfl)
    clear hF hA hL
    go_simp
    exact hK _ _ (hG.next_val rfl (getX_step hG.ex (by decide) (by decide) (Below.refl _ _)) (Below.refl _ _))
  · -- 12: slice
    intro L vs a' w' hL hA hF hG K hK
    have e26 : a'.tmps[26]? = some (.string (mkS S)) := hG.at hF 11 26 (hA ⟨11, .data⟩ (by simp) rfl) rfl rfl
    have hx := Xp3.out
    clear hF hA hL
    go_simp
    exact hK _ _ (hG.next_val rfl (getX_step hG.ex (by decide) (by decide) (Below.refl _ _)) (Below.refl _ _))
  · -- 13: num
    intro L vs a' w' hL hA hF hG K hK
    have e27 : a'.tmps[27]? = some (.string (mkS p3)) := hG.at hF 12 27 (hA ⟨12, .data⟩ (by simp) rfl) rfl rfl
    clear hF hA hL
    go_simp
    refine (Hg.out _).mono ?_
    rintro e w2 ⟨rfl, hb⟩
    exact hK _ _ (hG.next_val rfl (getX_step hG.ex (by decide) (by decide) hb) hb)
  · -- 14: field
    intro L vs a' w' hL hA hF hG K hK
    have e28 : a'.tmps[28]? = some (.agg #[.int .i64 g, .bool bg]) := hG.at hF 13 28 (hA ⟨13, .data⟩ (by simp) rfl) rfl rfl
    have hfd : ∀ (y : Int) (b : Bool) (w : World), (Instr.field 52 (.agg #[.int .i64 y, .bool b]) 0).run Tryz.prog w = .ok (.int .i64 y) w := fun _ _ _ => by kernel_rfl
    clear hF hA hL
    go_simp
    exact hK _ _ (hG.next_val rfl (getX_step hG.ex (by decide) (by decide) (Below.refl _ _)) (Below.refl _ _))
  · -- 15: move
    intro L vs a' w' hL hA hF hG K hK
    have e0 : a'.tmps[0]? = some (.string (mkS S)) := hF.old rfl (by kernel_rfl)
    clear hF hA hL
    go_simp
    exact hK _ _ (hG.next_val rfl (getX_step hG.ex (by decide) (by decide) (Below.refl _ _)) (Below.refl _ _))
  · -- 16: slice
    intro L vs a' w' hL hA hF hG K hK
    have e30 : a'.tmps[30]? = some (.string (mkS S)) := hG.at hF 15 30 (hA ⟨15, .data⟩ (by simp) rfl) rfl rfl
    have hx := Xp4.out
    clear hF hA hL
    go_simp
    exact hK _ _ (hG.next_val rfl (getX_step hG.ex (by decide) (by decide) (Below.refl _ _)) (Below.refl _ _))
  · -- 17: num
    intro L vs a' w' hL hA hF hG K hK
    have e31 : a'.tmps[31]? = some (.string (mkS p4)) := hG.at hF 16 31 (hA ⟨16, .data⟩ (by simp) rfl) rfl rfl
    clear hF hA hL
    go_simp
    refine (Hz.out _).mono ?_
    rintro e w2 ⟨rfl, hb⟩
    exact hK _ _ (hG.next_val rfl (getX_step hG.ex (by decide) (by decide) hb) hb)
  · -- 18: field
    intro L vs a' w' hL hA hF hG K hK
    have e32 : a'.tmps[32]? = some (.agg #[.int .i64 z, .bool bz]) := hG.at hF 17 32 (hA ⟨17, .data⟩ (by simp) rfl) rfl rfl
    have hfd : ∀ (y : Int) (b : Bool) (w : World), (Instr.field 52 (.agg #[.int .i64 y, .bool b]) 0).run Tryz.prog w = .ok (.int .i64 y) w := fun _ _ _ => by kernel_rfl
    clear hF hA hL
    go_simp
    exact hK _ _ (hG.next_val rfl (getX_step hG.ex (by decide) (by decide) (Below.refl _ _)) (Below.refl _ _))
  · -- 19: move
    intro L vs a' w' hL hA hF hG K hK
    have e0 : a'.tmps[0]? = some (.string (mkS S)) := hF.old rfl (by kernel_rfl)
    clear hF hA hL
    go_simp
    exact hK _ _ (hG.next_val rfl (getX_step hG.ex (by decide) (by decide) (Below.refl _ _)) (Below.refl _ _))
  · -- 20: slice
    intro L vs a' w' hL hA hF hG K hK
    have e34 : a'.tmps[34]? = some (.string (mkS S)) := hG.at hF 19 34 (hA ⟨19, .data⟩ (by simp) rfl) rfl rfl
    have hx := Xp5.out
    clear hF hA hL
    go_simp
    exact hK _ _ (hG.next_val rfl (getX_step hG.ex (by decide) (by decide) (Below.refl _ _)) (Below.refl _ _))
  · -- 21: num
    intro L vs a' w' hL hA hF hG K hK
    have e35 : a'.tmps[35]? = some (.string (mkS p5)) := hG.at hF 20 35 (hA ⟨20, .data⟩ (by simp) rfl) rfl rfl
    clear hF hA hL
    go_simp
    refine (Ht.out _).mono ?_
    rintro e w2 ⟨rfl, hb⟩
    exact hK _ _ (hG.next_val rfl (getX_step hG.ex (by decide) (by decide) hb) hb)
  · -- 22: field
    intro L vs a' w' hL hA hF hG K hK
    have e36 : a'.tmps[36]? = some (.agg #[.int .i64 t, .bool bt]) := hG.at hF 21 36 (hA ⟨21, .data⟩ (by simp) rfl) rfl rfl
    have hfd : ∀ (y : Int) (b : Bool) (w : World), (Instr.field 52 (.agg #[.int .i64 y, .bool b]) 0).run Tryz.prog w = .ok (.int .i64 y) w := fun _ _ _ => by kernel_rfl
    clear hF hA hL
    go_simp
    exact hK _ _ (hG.next_val rfl (getX_step hG.ex (by decide) (by decide) (Below.refl _ _)) (Below.refl _ _))
  · -- 23: move
    intro L vs a' w' hL hA hF hG K hK
    have e0 : a'.tmps[0]? = some (.string (mkS S)) := hF.old rfl (by kernel_rfl)
    clear hF hA hL
    go_simp
    exact hK _ _ (hG.next_val rfl (getX_step hG.ex (by decide) (by decide) (Below.refl _ _)) (Below.refl _ _))
  · -- 24: index
    intro L vs a' w' hL hA hF hG K hK
    have e38 : a'.tmps[38]? = some (.string (mkS S)) := hG.at hF 23 38 (hA ⟨23, .data⟩ (by simp) rfl) rfl rfl
    have hx := HTY.out
    clear hF hA hL
    go_simp
    exact hK _ _ (hG.next_val rfl (getX_step hG.ex (by decide) (by decide) (Below.refl _ _)) (Below.refl _ _))
  · -- 25: move
    intro L vs a' w' hL hA hF hG K hK
    have e0 : a'.tmps[0]? = some (.string (mkS S)) := hF.old rfl (by kernel_rfl)
    clear hF hA hL
    go_simp
    exact hK _ _ (hG.next_val rfl (getX_step hG.ex (by decide) (by decide) (Below.refl _ _)) (Below.refl _ _))
  · -- 26: slice
    intro L vs a' w' hL hA hF hG K hK
    have e40 : a'.tmps[40]? = some (.string (mkS S)) := hG.at hF 25 40 (hA ⟨25, .data⟩ (by simp) rfl) rfl rfl
    have hx := Xp6.out
    clear hF hA hL
    go_simp
    exact hK _ _ (hG.next_val rfl (getX_step hG.ex (by decide) (by decide) (Below.refl _ _)) (Below.refl _ _))
  · -- 27: text
    intro L vs a' w' hL hA hF hG K hK
    have e41 : a'.tmps[41]? = some (.string (mkS p6)) := hG.at hF 26 41 (hA ⟨26, .data⟩ (by simp) rfl) rfl rfl
    clear hF hA hL
    go_simp
    refine (Hlk.out _).mono ?_
    rintro e w2 ⟨rfl, rfl⟩
    exact hK _ _ (hG.next_val rfl (getX_step hG.ex (by decide) (by decide) (Below.refl _ _)) (Below.refl _ _))
  · -- 28: move
    intro L vs a' w' hL hA hF hG K hK
    have e0 : a'.tmps[0]? = some (.string (mkS S)) := hF.old rfl (by kernel_rfl)
    clear hF hA hL
    go_simp
    exact hK _ _ (hG.next_val rfl (getX_step hG.ex (by decide) (by decide) (Below.refl _ _)) (Below.refl _ _))
  · -- 29: slice
    intro L vs a' w' hL hA hF hG K hK
    have e43 : a'.tmps[43]? = some (.string (mkS S)) := hG.at hF 28 43 (hA ⟨28, .data⟩ (by simp) rfl) rfl rfl
    have hx := Xp7.out
    clear hF hA hL
    go_simp
    exact hK _ _ (hG.next_val rfl (getX_step hG.ex (by decide) (by decide) (Below.refl _ _)) (Below.refl _ _))
  · -- 30: text
    intro L vs a' w' hL hA hF hG K hK
    have e44 : a'.tmps[44]? = some (.string (mkS p7)) := hG.at hF 29 44 (hA ⟨29, .data⟩ (by simp) rfl) rfl rfl
    clear hF hA hL
    go_simp
    refine (Hun.out _).mono ?_
    rintro e w2 ⟨rfl, rfl⟩
    exact hK _ _ (hG.next_val rfl (getX_step hG.ex (by decide) (by decide) (Below.refl _ _)) (Below.refl _ _))
  · -- 31: move
    intro L vs a' w' hL hA hF hG K hK
    have e0 : a'.tmps[0]? = some (.string (mkS S)) := hF.old rfl (by kernel_rfl)
    clear hF hA hL
    go_simp
    exact hK _ _ (hG.next_val rfl (getX_step hG.ex (by decide) (by decide) (Below.refl _ _)) (Below.refl _ _))
  · -- 32: slice
    intro L vs a' w' hL hA hF hG K hK
    have e46 : a'.tmps[46]? = some (.string (mkS S)) := hG.at hF 31 46 (hA ⟨31, .data⟩ (by simp) rfl) rfl rfl
    have hx := Xp8.out
    clear hF hA hL
    go_simp
    exact hK _ _ (hG.next_val rfl (getX_step hG.ex (by decide) (by decide) (Below.refl _ _)) (Below.refl _ _))
  · -- 33: text
    intro L vs a' w' hL hA hF hG K hK
    have e47 : a'.tmps[47]? = some (.string (mkS p8)) := hG.at hF 32 47 (hA ⟨32, .data⟩ (by simp) rfl) rfl rfl
    clear hF hA hL
    go_simp
    refine (Hgn.out _).mono ?_
    rintro e w2 ⟨rfl, rfl⟩
    exact hK _ _ (hG.next_val rfl (getX_step hG.ex (by decide) (by decide) (Below.refl _ _)) (Below.refl _ _))
  · -- 34: move
    intro L vs a' w' hL hA hF hG K hK
    have e0 : a'.tmps[0]? = some (.string (mkS S)) := hF.old rfl (by kernel_rfl)
    clear hF hA hL
    go_simp
    exact hK _ _ (hG.next_val rfl (getX_step hG.ex (by decide) (by decide) (Below.refl _ _)) (Below.refl _ _))
  · -- 35: slice
    intro L vs a' w' hL hA hF hG K hK
    have e49 : a'.tmps[49]? = some (.string (mkS S)) := hG.at hF 34 49 (hA ⟨34, .data⟩ (by simp) rfl) rfl rfl
    have hx := Xp9.out
    clear hF hA hL
    go_simp
    exact hK _ _ (hG.next_val rfl (getX_step hG.ex (by decide) (by decide) (Below.refl _ _)) (Below.refl _ _))
  · -- 36: num
    intro L vs a' w' hL hA hF hG K hK
    have e50 : a'.tmps[50]? = some (.string (mkS p9)) := hG.at hF 35 50 (hA ⟨35, .data⟩ (by simp) rfl) rfl rfl
    clear hF hA hL
    go_simp
    refine (Hma.out _).mono ?_
    rintro e w2 ⟨rfl, hb⟩
    exact hK _ _ (hG.next_val rfl (getX_step hG.ex (by decide) (by decide) hb) hb)
  · -- 37: field
    intro L vs a' w' hL hA hF hG K hK
    have e51 : a'.tmps[51]? = some (.agg #[.int .i64 ma, .bool bma]) := hG.at hF 36 51 (hA ⟨36, .data⟩ (by simp) rfl) rfl rfl
    have hfd : ∀ (y : Int) (b : Bool) (w : World), (Instr.field 52 (.agg #[.int .i64 y, .bool b]) 0).run Tryz.prog w = .ok (.int .i64 y) w := fun _ _ _ => by kernel_rfl
    clear hF hA hL
    go_simp
    exact hK _ _ (hG.next_val rfl (getX_step hG.ex (by decide) (by decide) (Below.refl _ _)) (Below.refl _ _))
  · -- 38: move
    intro L vs a' w' hL hA hF hG K hK
    have e0 : a'.tmps[0]? = some (.string (mkS S)) := hF.old rfl (by kernel_rfl)
    clear hF hA hL
    go_simp
    exact hK _ _ (hG.next_val rfl (getX_step hG.ex (by decide) (by decide) (Below.refl _ _)) (Below.refl _ _))
  · -- 39: slice
    intro L vs a' w' hL hA hF hG K hK
    have e53 : a'.tmps[53]? = some (.string (mkS S)) := hG.at hF 38 53 (hA ⟨38, .data⟩ (by simp) rfl) rfl rfl
    have hx := Xp10.out
    clear hF hA hL
    go_simp
    exact hK _ _ (hG.next_val rfl (getX_step hG.ex (by decide) (by decide) (Below.refl _ _)) (Below.refl _ _))
  · -- 40: num
    intro L vs a' w' hL hA hF hG K hK
    have e54 : a'.tmps[54]? = some (.string (mkS p10)) := hG.at hF 39 54 (hA ⟨39, .data⟩ (by simp) rfl) rfl rfl
    clear hF hA hL
    go_simp
    refine (Hmi.out _).mono ?_
    rintro e w2 ⟨rfl, hb⟩
    exact hK _ _ (hG.next_val rfl (getX_step hG.ex (by decide) (by decide) hb) hb)
  · -- 41: field
    intro L vs a' w' hL hA hF hG K hK
    have e55 : a'.tmps[55]? = some (.agg #[.int .i64 mi, .bool bmi]) := hG.at hF 40 55 (hA ⟨40, .data⟩ (by simp) rfl) rfl rfl
    have hfd : ∀ (y : Int) (b : Bool) (w : World), (Instr.field 52 (.agg #[.int .i64 y, .bool b]) 0).run Tryz.prog w = .ok (.int .i64 y) w := fun _ _ _ => by kernel_rfl
    clear hF hA hL
    go_simp
    exact hK _ _ (hG.next_val rfl (getX_step hG.ex (by decide) (by decide) (Below.refl _ _)) (Below.refl _ _))
  · -- 42: move
    intro L vs a' w' hL hA hF hG K hK
    have e0 : a'.tmps[0]? = some (.string (mkS S)) := hF.old rfl (by kernel_rfl)
    clear hF hA hL
    go_simp
    exact hK _ _ (hG.next_val rfl (getX_step hG.ex (by decide) (by decide) (Below.refl _ _)) (Below.refl _ _))
  · -- 43: slice
    intro L vs a' w' hL hA hF hG K hK
    have e57 : a'.tmps[57]? = some (.string (mkS S)) := hG.at hF 42 57 (hA ⟨42, .data⟩ (by simp) rfl) rfl rfl
    have hx := Xp11.out
    clear hF hA hL
    go_simp
    exact hK _ _ (hG.next_val rfl (getX_step hG.ex (by decide) (by decide) (Below.refl _ _)) (Below.refl _ _))
  · -- 44: text
    intro L vs a' w' hL hA hF hG K hK
    have e58 : a'.tmps[58]? = some (.string (mkS p11)) := hG.at hF 43 58 (hA ⟨43, .data⟩ (by simp) rfl) rfl rfl
    clear hF hA hL
    go_simp
    refine (Hpr.out _).mono ?_
    rintro e w2 ⟨rfl, rfl⟩
    exact hK _ _ (hG.next_val rfl (getX_step hG.ex (by decide) (by decide) (Below.refl _ _)) (Below.refl _ _))
  · -- 45: build
    intro L vs a' w' hL hA hF hG K hK
    have e17 : a'.tmps[17]? = some (.string (mkS nm)) := hG.at hF 2 17 (hA ⟨2, .data⟩ (by simp) rfl) rfl rfl
    have e21 : a'.tmps[21]? = some (.int .i64 m) := hG.at hF 6 21 (hA ⟨6, .data⟩ (by simp) rfl) rfl rfl
    have e25 : a'.tmps[25]? = some (.int .i64 u) := hG.at hF 10 25 (hA ⟨10, .data⟩ (by simp) rfl) rfl rfl
    have e29 : a'.tmps[29]? = some (.int .i64 g) := hG.at hF 14 29 (hA ⟨14, .data⟩ (by simp) rfl) rfl rfl
    have e33 : a'.tmps[33]? = some (.int .i64 z) := hG.at hF 18 33 (hA ⟨18, .data⟩ (by simp) rfl) rfl rfl
    have e37 : a'.tmps[37]? = some (.int .i64 t) := hG.at hF 22 37 (hA ⟨22, .data⟩ (by simp) rfl) rfl rfl
    have e39 : a'.tmps[39]? = some (.int .u8 (ty.toNat : Int)) := hG.at hF 24 39 (hA ⟨24, .data⟩ (by simp) rfl) rfl rfl
    have e42 : a'.tmps[42]? = some (.string (mkS lk)) := hG.at hF 27 42 (hA ⟨27, .data⟩ (by simp) rfl) rfl rfl
    have e45 : a'.tmps[45]? = some (.string (mkS un)) := hG.at hF 30 45 (hA ⟨30, .data⟩ (by simp) rfl) rfl rfl
    have e48 : a'.tmps[48]? = some (.string (mkS gn)) := hG.at hF 33 48 (hA ⟨33, .data⟩ (by simp) rfl) rfl rfl
    have e52 : a'.tmps[52]? = some (.int .i64 ma) := hG.at hF 37 52 (hA ⟨37, .data⟩ (by simp) rfl) rfl rfl
    have e56 : a'.tmps[56]? = some (.int .i64 mi) := hG.at hF 41 56 (hA ⟨41, .data⟩ (by simp) rfl) rfl rfl
    have e59 : a'.tmps[59]? = some (.string (mkS pr)) := hG.at hF 44 59 (hA ⟨44, .data⟩ (by simp) rfl) rfl rfl
    clear hF hA hL
    go_simp
    exact hK _ _ (hG.next_val rfl (getX_step hG.ex (by decide) (by decide) (Below.refl _ _)) (Below.refl _ _))
  · -- 46: alloc
    intro L vs a' w' hL hA hF hG K hK
    clear hF hA
    go_simp
    exact hK _ _ (hG.next_mk rfl (getX_alloc hG.ex hL (Nat.le_trans (Nat.le_refl _) hG.below.size)) (hG.below.alloc hG.below.size _))
  · -- 47: store
    intro L vs a' w' hL hA hF hG K hK
    have e60 : a'.tmps[60]? = some (.agg #[.string (mkS nm), .int .i64 m, .int .i64 u, .int .i64 g, .int .i64 z, .int .i64 t, .int .u8 (ty.toNat : Int), .string (mkS lk), .string (mkS un), .string (mkS gn), .int .i64 ma, .int .i64 mi, .string (mkS pr)]) := hG.at hF 45 60 (hA ⟨45, .data⟩ (by simp) rfl) rfl rfl
    obtain ⟨q, hq, hqb, hqc⟩ := hG.ex.2 (hA ⟨46, .data⟩ (by simp) rfl)
    have e3 : a'.tmps[3]? = some (.pointer (some ⟨q, 0, none⟩)) := by rw [hF.hit 46 3 (hA ⟨46, .data⟩ (by simp) rfl) rfl, hq]
    have h46 := hA ⟨46, .data⟩ (by simp) rfl
    rw [if_neg (by rw [show L 47 = false from hL]; decide)] at hqc
    have c0 : w'.cell? ⟨q, 0, none⟩ = some (.string ⟨#[]⟩) := blk_cell hqc 0
    have f0 := blk_frozen hqc 0
    have c1 : w'.cell? ⟨q, 1, none⟩ = some (.int .i64 0) := blk_cell hqc 1
    have f1 := blk_frozen hqc 1
    have c2 : w'.cell? ⟨q, 2, none⟩ = some (.int .i64 0) := blk_cell hqc 2
    have f2 := blk_frozen hqc 2
    have c3 : w'.cell? ⟨q, 3, none⟩ = some (.int .i64 0) := blk_cell hqc 3
    have f3 := blk_frozen hqc 3
    have c4 : w'.cell? ⟨q, 4, none⟩ = some (.int .i64 0) := blk_cell hqc 4
    have f4 := blk_frozen hqc 4
    have c5 : w'.cell? ⟨q, 5, none⟩ = some (.int .i64 0) := blk_cell hqc 5
    have f5 := blk_frozen hqc 5
    have c6 : w'.cell? ⟨q, 6, none⟩ = some (.int .u8 0) := blk_cell hqc 6
    have f6 := blk_frozen hqc 6
    have c7 : w'.cell? ⟨q, 7, none⟩ = some (.string ⟨#[]⟩) := blk_cell hqc 7
    have f7 := blk_frozen hqc 7
    have c8 : w'.cell? ⟨q, 8, none⟩ = some (.string ⟨#[]⟩) := blk_cell hqc 8
    have f8 := blk_frozen hqc 8
    have c9 : w'.cell? ⟨q, 9, none⟩ = some (.string ⟨#[]⟩) := blk_cell hqc 9
    have f9 := blk_frozen hqc 9
    have c10 : w'.cell? ⟨q, 10, none⟩ = some (.int .i64 0) := blk_cell hqc 10
    have f10 := blk_frozen hqc 10
    have c11 : w'.cell? ⟨q, 11, none⟩ = some (.int .i64 0) := blk_cell hqc 11
    have f11 := blk_frozen hqc 11
    have c12 : w'.cell? ⟨q, 12, none⟩ = some (.string ⟨#[]⟩) := blk_cell hqc 12
    have f12 := blk_frozen hqc 12
    have lq := blk_lt hqc
    have HQC := Aside0.mk hqc
    have HQV := Aside0.mk hq
    clear hF hA hL hqc hq
    go_simp
    have a0 := HQC.out
    have a1 := blk_hit (i := 0) (v := .string (mkS nm)) a0
    simp only [List.setIfInBounds_toArray, List.set_cons_zero, List.set_cons_succ] at a1
    have a2 := blk_hit (i := 1) (v := .int .i64 m) a1
    simp only [List.setIfInBounds_toArray, List.set_cons_zero, List.set_cons_succ] at a2
    have a3 := blk_hit (i := 2) (v := .int .i64 u) a2
    simp only [List.setIfInBounds_toArray, List.set_cons_zero, List.set_cons_succ] at a3
    have a4 := blk_hit (i := 3) (v := .int .i64 g) a3
    simp only [List.setIfInBounds_toArray, List.set_cons_zero, List.set_cons_succ] at a4
    have a5 := blk_hit (i := 4) (v := .int .i64 z) a4
    simp only [List.setIfInBounds_toArray, List.set_cons_zero, List.set_cons_succ] at a5
    have a6 := blk_hit (i := 5) (v := .int .i64 t) a5
    simp only [List.setIfInBounds_toArray, List.set_cons_zero, List.set_cons_succ] at a6
    have a7 := blk_hit (i := 6) (v := .int .u8 (ty.toNat : Int)) a6
    simp only [List.setIfInBounds_toArray, List.set_cons_zero, List.set_cons_succ] at a7
    have a8 := blk_hit (i := 7) (v := .string (mkS lk)) a7
    simp only [List.setIfInBounds_toArray, List.set_cons_zero, List.set_cons_succ] at a8
    have a9 := blk_hit (i := 8) (v := .string (mkS un)) a8
    simp only [List.setIfInBounds_toArray, List.set_cons_zero, List.set_cons_succ] at a9
    have a10 := blk_hit (i := 9) (v := .string (mkS gn)) a9
    simp only [List.setIfInBounds_toArray, List.set_cons_zero, List.set_cons_succ] at a10
    have a11 := blk_hit (i := 10) (v := .int .i64 ma) a10
    simp only [List.setIfInBounds_toArray, List.set_cons_zero, List.set_cons_succ] at a11
    have a12 := blk_hit (i := 11) (v := .int .i64 mi) a11
    simp only [List.setIfInBounds_toArray, List.set_cons_zero, List.set_cons_succ] at a12
    have a13 := blk_hit (i := 12) (v := .string (mkS pr)) a12
    simp only [List.setIfInBounds_toArray, List.set_cons_zero, List.set_cons_succ] at a13
    exact hK undef _ (hG.next_mk rfl (getX_store HQV.out h46 hqb a13) (Below.setCell (Below.setCell (Below.setCell (Below.setCell (Below.setCell (Below.setCell (Below.setCell (Below.setCell (Below.setCell (Below.setCell (Below.setCell (Below.setCell (Below.setCell hG.below hqb _) hqb _) hqb _) hqb _) hqb _) hqb _) hqb _) hqb _) hqb _) hqb _) hqb _) hqb _) hqb _))
  intro vs W5 hB5 hX
  obtain ⟨q, hq, hqb, hqc⟩ := hX.2 (by kernel_rfl)
  rw [if_pos (by kernel_rfl)] at hqc
  simp only [putL, Act.put, List.setIfInBounds_toArray, List.set_cons_zero, List.set_cons_succ]
  rw [hq]
  clear hX hq Hnm Hlk Hun Hgn Hpr Hm Hu Hg Hz Ht Hma Hmi HTY Xp0 Xp1 Xp2 Xp3 Xp4 Xp5 Xp6 Xp7 Xp8 Xp9 Xp10 Xp11
  have H3 := Aside0.mk ((hB5.block _ (blk_lt H2.out)).trans H2.out)
  have B3 := Aside0.mk (below_next B2.out hB5)
  have HQ := Aside0.mk hqc
  have c0 : W5.cell? ⟨q, 0, none⟩ = some (.string (mkS nm)) := blk_cell hqc 0
  have c1 : W5.cell? ⟨q, 1, none⟩ = some (.int .i64 m) := blk_cell hqc 1
  have c2 : W5.cell? ⟨q, 2, none⟩ = some (.int .i64 u) := blk_cell hqc 2
  have c3 : W5.cell? ⟨q, 3, none⟩ = some (.int .i64 g) := blk_cell hqc 3
  have c4 : W5.cell? ⟨q, 4, none⟩ = some (.int .i64 z) := blk_cell hqc 4
  have c5 : W5.cell? ⟨q, 5, none⟩ = some (.int .i64 t) := blk_cell hqc 5
  have c6 : W5.cell? ⟨q, 6, none⟩ = some (.int .u8 (ty.toNat : Int)) := blk_cell hqc 6
  have c7 : W5.cell? ⟨q, 7, none⟩ = some (.string (mkS lk)) := blk_cell hqc 7
  have c8 : W5.cell? ⟨q, 8, none⟩ = some (.string (mkS un)) := blk_cell hqc 8
  have c9 : W5.cell? ⟨q, 9, none⟩ = some (.string (mkS gn)) := blk_cell hqc 9
  have c10 : W5.cell? ⟨q, 10, none⟩ = some (.int .i64 ma) := blk_cell hqc 10
  have c11 : W5.cell? ⟨q, 11, none⟩ = some (.int .i64 mi) := blk_cell hqc 11
  have c12 : W5.cell? ⟨q, 12, none⟩ = some (.string (mkS pr)) := blk_cell hqc 12
  clear hB5 hqc hqb
  obtain ⟨pt, hpt⟩ : ∃ pt, putT (readH0 S) = pt := ⟨_, rfl⟩
  have HPUT := Aside0.mk (fun W => show Calls Tryz.prog 12 #[.agg #[.string (mkS nm), .int .i64 m, .int .i64 u, .int .i64 g, .int .i64 z, .int .i64 t, .int .u8 (ty.toNat : Int), .string (mkS lk), .string (mkS un), .string (mkS gn), .int .i64 ma, .int .i64 mi, .string (mkS pr)]] W fun e w' => e = .returned (.string (mkS pt)) ∧ Below W.heap.size W w' from by
    have := rPut_any _ W HI.out
    rw [← HRD.out, hpt, HRD.out] at this
    exact this)
  have HR1 := Aside0.mk (show R = gotR (if pt = S then .ok (readH0 S) else .error 4) by rw [HR.out, hpt])
  clear hpt HR HI
  go_wp2_with fail
  refine (HPUT.out _).mono ?_
  rintro e WP ⟨rfl, hb⟩
  have H4 := Aside0.mk ((hb.block _ (blk_lt H3.out)).trans H3.out)
  have B4 := Aside0.mk (below_next B3.out hb)
  have HQ4 := Aside0.mk ((hb.block _ (blk_lt HQ.out)).trans HQ.out)
  clear hb HPUT c0 c1 c2 c3 c4 c5 c6 c7 c8 c9 c10 c11 c12
  obtain ⟨r, hr⟩ : ∃ r, w.heap.size = r := ⟨_, rfl⟩
  rw [hr] at H4
  have H5 := H4
  have B5 := Aside0.mk (show Below r w WP by rw [← hr]; exact B4.out)
  have HE := Aside0.mk (fun (W : World) (hb : Below r w W) => show Below w.heap.size w W from by rw [hr]; exact hb)
  rw [hr]
  clear H4 B4 hr H3 B3 H2 B2
  by_cases hput : pt = S
  · have hq1 : (pt == S) = true := by simpa using hput
    have HR2 := Aside0.mk (show R = gotR (.ok (readH0 S)) by rw [HR1.out, if_pos hput])
    clear HR1 hput
    have c0 : WP.cell? ⟨q, 0, none⟩ = some (.string (mkS nm)) := blk_cell HQ4.out 0
    have c1 : WP.cell? ⟨q, 1, none⟩ = some (.int .i64 m) := blk_cell HQ4.out 1
    have c2 : WP.cell? ⟨q, 2, none⟩ = some (.int .i64 u) := blk_cell HQ4.out 2
    have c3 : WP.cell? ⟨q, 3, none⟩ = some (.int .i64 g) := blk_cell HQ4.out 3
    have c4 : WP.cell? ⟨q, 4, none⟩ = some (.int .i64 z) := blk_cell HQ4.out 4
    have c5 : WP.cell? ⟨q, 5, none⟩ = some (.int .i64 t) := blk_cell HQ4.out 5
    have c6 : WP.cell? ⟨q, 6, none⟩ = some (.int .u8 (ty.toNat : Int)) := blk_cell HQ4.out 6
    have c7 : WP.cell? ⟨q, 7, none⟩ = some (.string (mkS lk)) := blk_cell HQ4.out 7
    have c8 : WP.cell? ⟨q, 8, none⟩ = some (.string (mkS un)) := blk_cell HQ4.out 8
    have c9 : WP.cell? ⟨q, 9, none⟩ = some (.string (mkS gn)) := blk_cell HQ4.out 9
    have c10 : WP.cell? ⟨q, 10, none⟩ = some (.int .i64 ma) := blk_cell HQ4.out 10
    have c11 : WP.cell? ⟨q, 11, none⟩ = some (.int .i64 mi) := blk_cell HQ4.out 11
    have c12 : WP.cell? ⟨q, 12, none⟩ = some (.string (mkS pr)) := blk_cell HQ4.out 12
    have r0 : WP.cell? ⟨r, 0, none⟩ = some (.string ⟨#[]⟩) := blk_cell H5.out 0
    have g0 := blk_frozen H5.out 0
    have r1 : WP.cell? ⟨r, 1, none⟩ = some (.int .i64 0) := blk_cell H5.out 1
    have g1 := blk_frozen H5.out 1
    have r2 : WP.cell? ⟨r, 2, none⟩ = some (.int .i64 0) := blk_cell H5.out 2
    have g2 := blk_frozen H5.out 2
    have r3 : WP.cell? ⟨r, 3, none⟩ = some (.int .i64 0) := blk_cell H5.out 3
    have g3 := blk_frozen H5.out 3
    have r4 : WP.cell? ⟨r, 4, none⟩ = some (.int .i64 0) := blk_cell H5.out 4
    have g4 := blk_frozen H5.out 4
    have r5 : WP.cell? ⟨r, 5, none⟩ = some (.int .i64 0) := blk_cell H5.out 5
    have g5 := blk_frozen H5.out 5
    have r6 : WP.cell? ⟨r, 6, none⟩ = some (.int .u8 0) := blk_cell H5.out 6
    have g6 := blk_frozen H5.out 6
    have r7 : WP.cell? ⟨r, 7, none⟩ = some (.string ⟨#[]⟩) := blk_cell H5.out 7
    have g7 := blk_frozen H5.out 7
    have r8 : WP.cell? ⟨r, 8, none⟩ = some (.string ⟨#[]⟩) := blk_cell H5.out 8
    have g8 := blk_frozen H5.out 8
    have r9 : WP.cell? ⟨r, 9, none⟩ = some (.string ⟨#[]⟩) := blk_cell H5.out 9
    have g9 := blk_frozen H5.out 9
    have r10 : WP.cell? ⟨r, 10, none⟩ = some (.int .i64 0) := blk_cell H5.out 10
    have g10 := blk_frozen H5.out 10
    have r11 : WP.cell? ⟨r, 11, none⟩ = some (.int .i64 0) := blk_cell H5.out 11
    have g11 := blk_frozen H5.out 11
    have r12 : WP.cell? ⟨r, 12, none⟩ = some (.string ⟨#[]⟩) := blk_cell H5.out 12
    have g12 := blk_frozen H5.out 12
    have r13 : WP.cell? ⟨r, 13, none⟩ = some (.int .i64 0) := blk_cell H5.out 13
    have g13 := blk_frozen H5.out 13
    have lr := blk_lt H5.out
    go_wp2_with fail
    have a0 := H5.out
    have a1 := blk_hit (i := 0) (v := .string (mkS nm)) a0
    simp only [List.setIfInBounds_toArray, List.set_cons_zero, List.set_cons_succ] at a1
    have a2 := blk_hit (i := 1) (v := .int .i64 m) a1
    simp only [List.setIfInBounds_toArray, List.set_cons_zero, List.set_cons_succ] at a2
    have a3 := blk_hit (i := 2) (v := .int .i64 u) a2
    simp only [List.setIfInBounds_toArray, List.set_cons_zero, List.set_cons_succ] at a3
    have a4 := blk_hit (i := 3) (v := .int .i64 g) a3
    simp only [List.setIfInBounds_toArray, List.set_cons_zero, List.set_cons_succ] at a4
    have a5 := blk_hit (i := 4) (v := .int .i64 z) a4
    simp only [List.setIfInBounds_toArray, List.set_cons_zero, List.set_cons_succ] at a5
    have a6 := blk_hit (i := 5) (v := .int .i64 t) a5
    simp only [List.setIfInBounds_toArray, List.set_cons_zero, List.set_cons_succ] at a6
    have a7 := blk_hit (i := 6) (v := .int .u8 (ty.toNat : Int)) a6
    simp only [List.setIfInBounds_toArray, List.set_cons_zero, List.set_cons_succ] at a7
    have a8 := blk_hit (i := 7) (v := .string (mkS lk)) a7
    simp only [List.setIfInBounds_toArray, List.set_cons_zero, List.set_cons_succ] at a8
    have a9 := blk_hit (i := 8) (v := .string (mkS un)) a8
    simp only [List.setIfInBounds_toArray, List.set_cons_zero, List.set_cons_succ] at a9
    have a10 := blk_hit (i := 9) (v := .string (mkS gn)) a9
    simp only [List.setIfInBounds_toArray, List.set_cons_zero, List.set_cons_succ] at a10
    have a11 := blk_hit (i := 10) (v := .int .i64 ma) a10
    simp only [List.setIfInBounds_toArray, List.set_cons_zero, List.set_cons_succ] at a11
    have a12 := blk_hit (i := 11) (v := .int .i64 mi) a11
    simp only [List.setIfInBounds_toArray, List.set_cons_zero, List.set_cons_succ] at a12
    have a13 := blk_hit (i := 12) (v := .string (mkS pr)) a12
    simp only [List.setIfInBounds_toArray, List.set_cons_zero, List.set_cons_succ] at a13
    have a14 := blk_hit (i := 13) (v := .int .i64 0) a13
    simp only [List.setIfInBounds_toArray, List.set_cons_zero, List.set_cons_succ] at a14
    refine bodyPost_ret (rget_res r _ _ _ _ _ _ _ _ _ _ _ _ _ _ _ _ rfl a14) rfl ?_
    exact ⟨by rw [HR2.out, HRD.out]; rfl, HE.out _ (Below.setCell (Below.setCell (Below.setCell (Below.setCell (Below.setCell (Below.setCell (Below.setCell (Below.setCell (Below.setCell (Below.setCell (Below.setCell (Below.setCell (Below.setCell (Below.setCell B5.out (Nat.le_refl _) _) (Nat.le_refl _) _) (Nat.le_refl _) _) (Nat.le_refl _) _) (Nat.le_refl _) _) (Nat.le_refl _) _) (Nat.le_refl _) _) (Nat.le_refl _) _) (Nat.le_refl _) _) (Nat.le_refl _) _) (Nat.le_refl _) _) (Nat.le_refl _) _) (Nat.le_refl _) _) (Nat.le_refl _) _)⟩
  · have hq1 : (pt == S) = false := by simpa using hput
    have HR2 := Aside0.mk (show R = gotR (.error 4) by rw [HR1.out, if_neg hput])
    clear HR1 hput
    have r0 : WP.cell? ⟨r, 0, none⟩ = some (.string ⟨#[]⟩) := blk_cell H5.out 0
    have g0 := blk_frozen H5.out 0
    have r1 : WP.cell? ⟨r, 1, none⟩ = some (.int .i64 0) := blk_cell H5.out 1
    have g1 := blk_frozen H5.out 1
    have r2 : WP.cell? ⟨r, 2, none⟩ = some (.int .i64 0) := blk_cell H5.out 2
    have g2 := blk_frozen H5.out 2
    have r3 : WP.cell? ⟨r, 3, none⟩ = some (.int .i64 0) := blk_cell H5.out 3
    have g3 := blk_frozen H5.out 3
    have r4 : WP.cell? ⟨r, 4, none⟩ = some (.int .i64 0) := blk_cell H5.out 4
    have g4 := blk_frozen H5.out 4
    have r5 : WP.cell? ⟨r, 5, none⟩ = some (.int .i64 0) := blk_cell H5.out 5
    have g5 := blk_frozen H5.out 5
    have r6 : WP.cell? ⟨r, 6, none⟩ = some (.int .u8 0) := blk_cell H5.out 6
    have g6 := blk_frozen H5.out 6
    have r7 : WP.cell? ⟨r, 7, none⟩ = some (.string ⟨#[]⟩) := blk_cell H5.out 7
    have g7 := blk_frozen H5.out 7
    have r8 : WP.cell? ⟨r, 8, none⟩ = some (.string ⟨#[]⟩) := blk_cell H5.out 8
    have g8 := blk_frozen H5.out 8
    have r9 : WP.cell? ⟨r, 9, none⟩ = some (.string ⟨#[]⟩) := blk_cell H5.out 9
    have g9 := blk_frozen H5.out 9
    have r10 : WP.cell? ⟨r, 10, none⟩ = some (.int .i64 0) := blk_cell H5.out 10
    have g10 := blk_frozen H5.out 10
    have r11 : WP.cell? ⟨r, 11, none⟩ = some (.int .i64 0) := blk_cell H5.out 11
    have g11 := blk_frozen H5.out 11
    have r12 : WP.cell? ⟨r, 12, none⟩ = some (.string ⟨#[]⟩) := blk_cell H5.out 12
    have g12 := blk_frozen H5.out 12
    have r13 : WP.cell? ⟨r, 13, none⟩ = some (.int .i64 0) := blk_cell H5.out 13
    have g13 := blk_frozen H5.out 13
    have lr := blk_lt H5.out
    go_wp2_with fail
    have a0 := H5.out
    have a1 := blk_hit (i := 0) (v := .string ⟨#[]⟩) a0
    simp only [List.setIfInBounds_toArray, List.set_cons_zero, List.set_cons_succ] at a1
    have a2 := blk_hit (i := 1) (v := .int .i64 0) a1
    simp only [List.setIfInBounds_toArray, List.set_cons_zero, List.set_cons_succ] at a2
    have a3 := blk_hit (i := 2) (v := .int .i64 0) a2
    simp only [List.setIfInBounds_toArray, List.set_cons_zero, List.set_cons_succ] at a3
    have a4 := blk_hit (i := 3) (v := .int .i64 0) a3
    simp only [List.setIfInBounds_toArray, List.set_cons_zero, List.set_cons_succ] at a4
    have a5 := blk_hit (i := 4) (v := .int .i64 0) a4
    simp only [List.setIfInBounds_toArray, List.set_cons_zero, List.set_cons_succ] at a5
    have a6 := blk_hit (i := 5) (v := .int .i64 0) a5
    simp only [List.setIfInBounds_toArray, List.set_cons_zero, List.set_cons_succ] at a6
    have a7 := blk_hit (i := 6) (v := .int .u8 0) a6
    simp only [List.setIfInBounds_toArray, List.set_cons_zero, List.set_cons_succ] at a7
    have a8 := blk_hit (i := 7) (v := .string ⟨#[]⟩) a7
    simp only [List.setIfInBounds_toArray, List.set_cons_zero, List.set_cons_succ] at a8
    have a9 := blk_hit (i := 8) (v := .string ⟨#[]⟩) a8
    simp only [List.setIfInBounds_toArray, List.set_cons_zero, List.set_cons_succ] at a9
    have a10 := blk_hit (i := 9) (v := .string ⟨#[]⟩) a9
    simp only [List.setIfInBounds_toArray, List.set_cons_zero, List.set_cons_succ] at a10
    have a11 := blk_hit (i := 10) (v := .int .i64 0) a10
    simp only [List.setIfInBounds_toArray, List.set_cons_zero, List.set_cons_succ] at a11
    have a12 := blk_hit (i := 11) (v := .int .i64 0) a11
    simp only [List.setIfInBounds_toArray, List.set_cons_zero, List.set_cons_succ] at a12
    have a13 := blk_hit (i := 12) (v := .string ⟨#[]⟩) a12
    simp only [List.setIfInBounds_toArray, List.set_cons_zero, List.set_cons_succ] at a13
    have a14 := blk_hit (i := 13) (v := .int .i64 4) a13
    simp only [List.setIfInBounds_toArray, List.set_cons_zero, List.set_cons_succ] at a14
    refine bodyPost_ret (rget_res r _ _ _ _ _ _ _ _ _ _ _ _ _ _ _ _ rfl a14) rfl ?_
    exact ⟨by rw [HR2.out]; rfl, HE.out _ (Below.setCell (Below.setCell (Below.setCell (Below.setCell (Below.setCell (Below.setCell (Below.setCell (Below.setCell (Below.setCell (Below.setCell (Below.setCell (Below.setCell (Below.setCell (Below.setCell B5.out (Nat.le_refl _) _) (Nat.le_refl _) _) (Nat.le_refl _) _) (Nat.le_refl _) _) (Nat.le_refl _) _) (Nat.le_refl _) _) (Nat.le_refl _) _) (Nat.le_refl _) _) (Nat.le_refl _) _) (Nat.le_refl _) _) (Nat.le_refl _) _) (Nat.le_refl _) _) (Nat.le_refl _) _) (Nat.le_refl _) _)⟩
theorem rGet_any (s : List UInt8) (w : World) :
    Calls Tryz.prog 6 #[.string (mkS s)] w fun e w' => e = .returned (gotR (getT s)) ∧ Below w.heap.size w w' := by
  rw [← getR_eq]
  unfold getR
  by_cases h : s.length < 512
  · rw [if_pos h]; exact rget_more s w h
  · rw [if_neg h]
    by_cases hz : (s.take 512).all (fun c => c == 0) = true
    · rw [if_pos hz]; exact rget_none s _ rfl (by omega) hz w
    · rw [if_neg hz]; exact rget_main s _ rfl (by omega) hz w
end Go.Proofs.YtpmiddhdgidimaaGreatDoor
