/- The abstract logic, part 9: regions in any order. -/
import Derived.Test.YtfeokfaccaenhaaDoorA8
set_option linter.unusedVariables false
set_option linter.unusedSimpArgs false
namespace Go.Abs
section
variable {P : Program} {gid : Nat → Option Nat}

theorem upd_get (H : Hp) (cs pr : HL) (b : Nat) (h1 : lk cs b = none) (h2 : lk pr b = none) : upd H cs pr b = H b := by simp [upd, h1, h2]
theorem fputO_get {F : FF} {d : Option Nat} {v : V} {t : Nat} (h : d ≠ some t) : fputO F d v t = F t := by
  cases d with
  | none => rfl
  | some d =>
    simp only [fputO, fput]
    rw [if_neg fun e => h (by rw [e])]
theorem fputO_comm (F : FF) (d e : Option Nat) (v u : V) (h : ∀ t, d = some t → e ≠ some t) : fputO (fputO F d v) e u = fputO (fputO F e u) d v := by
  cases d with
  | none => cases e <;> rfl
  | some d =>
    cases e with
    | none => rfl
    | some e =>
      have hne : d ≠ e := fun x => h d rfl (by rw [x])
      funext t
      simp only [fputO, fput]
      split <;> split <;> first | rfl | (rename_i a b; exact absurd (b.symm.trans a) (by first | exact hne | exact fun x => hne x.symm))

variable (P gid) in
/-- One operation of a region, with what it came to. -/
def OpDo (N : Nat) (ops : Array Oper) (o : Oper) (r : Rec) (F : FF) (H : Hp) : Prop :=
  (∀ i, o.dst = some i → i < N) ∧
  (((o.guard = none ∨ ∃ j b, o.guard = some (j, b) ∧ gval ops F j = some b) ∧ (∀ b k, lk r.rd b = some k → H b = some k) ∧ (∀ b k, lk r.cs b = some k → H b = some k) ∧ OpOK P gid o F r.rd r.cs r.pr r.n r.n' r.v) ∨
   (∃ j b, o.guard = some (j, b) ∧ goff ops F j b ∧ r = ⟨undV, [], [], [], r.n, r.n⟩))

structure Item where
  i : Nat
  o : Oper
  r : Rec

variable (P gid) in
inductive Todo (N : Nat) (ops : Array Oper) : List Item → FF → Hp → FF → Hp → Prop
  | nil (F H) : Todo N ops [] F H F H
  | cons {x : Item} {l F H F' H'} (h : OpDo P gid N ops x.o x.r F H) (hr : Todo N ops l (fputO F x.o.dst x.r.v) (upd H x.r.cs x.r.pr) F' H') : Todo N ops (x :: l) F H F' H'

/-- A block that goes, and does not come back just as it was. -/
def Chg (r : Rec) (b : Nat) : Prop := (lk r.cs b ≠ none ∨ lk r.pr b ≠ none) ∧ ¬ ∃ k, lk r.cs b = some k ∧ lk r.pr b = some k
/-- Two operations leave each other alone. -/
structure Indep (ops : Array Oper) (x y : Item) : Prop where
  slots : x.o.apart ops y.o = true
  xy : ∀ b, Chg x.r b → lk y.r.cs b = none ∧ lk y.r.pr b = none ∧ lk y.r.rd b = none
  yx : ∀ b, Chg y.r b → lk x.r.cs b = none ∧ lk x.r.pr b = none ∧ lk x.r.rd b = none

theorem OpDo.upd_same {N : Nat} {ops : Array Oper} {o : Oper} {r : Rec} {F : FF} {H : Hp} (h : OpDo P gid N ops o r F H) {b : Nat} (hb : ¬ Chg r b) : upd H r.cs r.pr b = H b := by
  by_cases h1 : lk r.cs b ≠ none ∨ lk r.pr b ≠ none
  · have h2 : ∃ k, lk r.cs b = some k ∧ lk r.pr b = some k := Classical.byContradiction fun h2 => hb ⟨h1, h2⟩
    obtain ⟨k, h3, h4⟩ := h2
    rcases h.2 with ⟨_, _, h5, _⟩ | ⟨_, _, _, _, h5⟩
    · rw [h5 b k h3]; simp [upd, h4]
    · rw [h5] at h3; simp [lk] at h3
  · simp only [not_or, ne_eq, Classical.not_not] at h1
    exact upd_get _ _ _ _ h1.1 h1.2

theorem OpOK.congr {o : Oper} {F G : FF} {rd cs pr : HL} {n n' : Nat} {v : V} (h : OpOK P gid o F rd cs pr n n' v) (he : ∀ x ∈ o.op.operands, ev gid F x = ev gid G x) : OpOK P gid o G rd cs pr n n' v :=
  ⟨h.1, fun E ρ H w a h1 h2 h3 => h.2 E ρ H w a h1 h2 fun x hx => by rw [he x hx]; exact h3 x hx⟩

theorem gval_congr {ops : Array Oper} {F G : FF} {j : Nat} (h : ∀ d, (ops[j]?).bind (·.dst) = some d → F d = G d) : gval ops F j = gval ops G j := by
  unfold gval
  cases hd : (ops[j]?).bind (·.dst) with
  | none => rfl
  | some d => simp only [h d hd]

theorem OpDo.congr {N : Nat} {ops : Array Oper} {o : Oper} {r : Rec} {F G : FF} {H H2 : Hp} (h : OpDo P gid N ops o r F H) (hF : ∀ t ∈ o.looksAt ops, F t = G t)
    (hrd : ∀ b, lk r.rd b ≠ none → H b = H2 b) (hcs : ∀ b, lk r.cs b ≠ none → H b = H2 b) : OpDo P gid N ops o r G H2 := by
  have hev : ∀ x ∈ o.op.operands, ev gid F x = ev gid G x := by
    intro x hx
    cases x with
    | tmp t => exact hF t (List.mem_append_left _ (List.mem_filterMap.2 ⟨.tmp t, by simpa using hx, rfl⟩))
    | _ => rfl
  have hgv : ∀ j b, o.guard = some (j, b) → gval ops F j = gval ops G j := by
    intro j b hg
    refine gval_congr fun d hd => hF d (List.mem_append_right _ ?_)
    simp [hg, hd]
  refine ⟨h.1, ?_⟩
  rcases h.2 with ⟨h1, h2, h3, h4⟩ | ⟨j, b, h1, h2, h3⟩
  · refine .inl ⟨?_, fun b k hb => ?_, fun b k hb => ?_, h4.congr hev⟩
    · rcases h1 with h1 | ⟨j, b, h1, h5⟩
      · exact .inl h1
      · exact .inr ⟨j, b, h1, by rw [← hgv j b h1]; exact h5⟩
    · rw [← hrd b (by simp [hb])]; exact h2 b k hb
    · rw [← hcs b (by simp [hb])]; exact h3 b k hb
  · obtain ⟨d, hd, hv⟩ := h2
    refine .inr ⟨j, b, h1, ⟨d, hd, ?_⟩, h3⟩
    rw [← hF d (List.mem_append_right _ (by simp [h1, hd]))]
    exact hv

theorem Todo.swap {N : Nat} {ops : Array Oper} {x y : Item} {l : List Item} {F F' : FF} {H H' : Hp} (hi : Indep ops x y) (h : Todo P gid N ops (x :: y :: l) F H F' H') :
    Todo P gid N ops (y :: x :: l) F H F' H' := by
  cases h with
  | cons hx h =>
    cases h with
    | cons hy h =>
      obtain ⟨h1, h2, h3⟩ := Oper.apart_spec hi.slots
      have ex : ∀ b, lk y.r.rd b ≠ none ∨ lk y.r.cs b ≠ none → upd H x.r.cs x.r.pr b = H b := fun b hb => hx.upd_same fun hc => by
        have := hi.xy b hc
        rcases hb with hb | hb
        · exact hb this.2.2
        · exact hb this.1
      have hy' : OpDo P gid N ops y.o y.r F H := hy.congr (fun t ht => fputO_get fun e => h1 t e ht) (fun b hb => ex b (.inl hb)) fun b hb => ex b (.inr hb)
      have ey : ∀ b, lk x.r.rd b ≠ none ∨ lk x.r.cs b ≠ none → H b = upd H y.r.cs y.r.pr b := fun b hb => (hy'.upd_same fun hc => by
        have := hi.yx b hc
        rcases hb with hb | hb
        · exact hb this.2.2
        · exact hb this.1).symm
      have hx' : OpDo P gid N ops x.o x.r (fputO F y.o.dst y.r.v) (upd H y.r.cs y.r.pr) := hx.congr (fun t ht => (fputO_get fun e => h3 t e ht).symm) (fun b hb => ey b (.inl hb)) fun b hb => ey b (.inr hb)
      refine .cons hy' (.cons hx' ?_)
      have hu : upd (upd H x.r.cs x.r.pr) y.r.cs y.r.pr = upd (upd H y.r.cs y.r.pr) x.r.cs x.r.pr := by
        funext b
        by_cases hcx : Chg x.r b
        · obtain ⟨h4, h5, _⟩ := hi.xy b hcx
          rw [upd_get _ _ _ _ h4 h5]
          cases h6 : lk x.r.pr b with
          | some k => simp [upd, h6]
          | none =>
            cases h7 : lk x.r.cs b with
            | some k => simp [upd, h6, h7]
            | none => simp [upd, h4, h5, h6, h7]
        · by_cases hcy : Chg y.r b
          · obtain ⟨h4, h5, _⟩ := hi.yx b hcy
            rw [upd_get (upd H y.r.cs y.r.pr) _ _ _ h4 h5]
            cases h6 : lk y.r.pr b with
            | some k => simp [upd, h6]
            | none =>
              cases h7 : lk y.r.cs b with
              | some k => simp [upd, h6, h7]
              | none => simp [upd, h4, h5, h6, h7]
          · rw [hy.upd_same hcy, hx.upd_same hcx, hx'.upd_same hcx, hy'.upd_same hcy]
      rw [fputO_comm _ _ _ _ _ h2, hu] at h
      exact h

theorem Todo.pull {N : Nat} {ops : Array Oper} {y : Item} {l2 : List Item} : ∀ {l1 : List Item} {F F' : FF} {H H' : Hp}, (∀ x ∈ l1, Indep ops x y) → Todo P gid N ops (l1 ++ y :: l2) F H F' H' → Todo P gid N ops (y :: (l1 ++ l2)) F H F' H'
  | [], _, _, _, _, _, h => h
  | x :: l1, _, _, _, _, hi, h => by
    cases h with
    | cons hx h => exact Todo.swap (hi x (List.mem_cons_self ..)) (.cons hx (Todo.pull (fun z hz => hi z (List.mem_cons_of_mem _ hz)) h))

/-- What must come before an operation is told by its edges, step by step. -/
def AncOk (ops : Array Oper) (anc : Nat → List Nat) : Prop :=
  ∀ (i : Nat) (o : Oper), ops[i]? = some o → (∀ x ∈ anc i, ∃ e ∈ o.after, Region.binds .any e = true ∧ (e.on = x ∨ x ∈ anc e.on)) ∧ ∀ e ∈ o.after, Region.binds .any e = true → e.on < i

structure Stand (N : Nat) (ops : Array Oper) (anc : Nat → List Nat) (l : List Item) (listed : Array Bool) (E : Ent) (nEnd : Nat) (ρ : Env) (F : FF) (H : Hp) (a : Act) (w : World) : Prop where
  w : WSt P gid E ρ H w
  f : FrOk N ρ F a
  fresh : ∀ x ∈ l, ∀ i, x.r.n ≤ i → i < x.r.n' → ρ i = none
  beyond : ∀ i, nEnd ≤ i → ρ i = none
  kn : ∀ x ∈ l, E.k ≤ x.r.n ∧ x.r.n' ≤ nEnd
  apart : l.Pairwise fun x y => x.r.n' ≤ y.r.n ∨ y.r.n' ≤ x.r.n
  items : ∀ x ∈ l, ops[x.i]? = some x.o ∧ listed.getD x.i true = false
  all : ∀ i, i < ops.size → listed.getD i true = false → ∃ x ∈ l, x.i = i
  sorted : l.Pairwise fun x y => x.i < y.i
  indep : l.Pairwise fun x y => x.i ∈ anc y.i ∨ Indep ops x y
  closed : ∀ j, listed.getD j false = true → ∀ x ∈ anc j, listed.getD x false = true
  size : listed.size = ops.size

theorem pw_drop {α : Type} {R : α → α → Prop} {l1 l2 : List α} {y : α} (h : (l1 ++ y :: l2).Pairwise R) : (l1 ++ l2).Pairwise R := by
  rw [List.pairwise_append] at h ⊢
  obtain ⟨h1, h2, h3⟩ := h
  exact ⟨h1, (List.pairwise_cons.1 h2).2, fun a ha b hb => h3 a ha b (List.mem_cons_of_mem _ hb)⟩

theorem wpAny_todo {N : Nat} {ops : Array Oper} {anc : Nat → List Nat} (hanc : AncOk ops anc) (hN : ∀ (j d : Nat), (ops[j]?).bind (·.dst) = some d → d < N) {Q : Exit → Act → World → Prop} {E : Ent} {nEnd : Nat} {F' : FF} {H' : Hp} (hkE : E.k ≤ nEnd)
    (hQ : ∀ ρ a w, St P gid N E ρ F' H' nEnd a w → Q .normal a w) : ∀ (fuel : Nat) (listed : Array Bool) (l : List Item) (ρ : Env) (F : FF) (H : Hp) (a : Act) (w : World), l.length ≤ fuel → Stand (P := P) (gid := gid) N ops anc l listed E nEnd ρ F H a w → Todo P gid N ops l F H F' H' →
      wpAny P .any ops Q fuel listed a w := by
  have hend : ∀ (listed : Array Bool) (l : List Item) (ρ : Env) (F : FF) (H : Hp) (a : Act) (w : World), Stand (P := P) (gid := gid) N ops anc l listed E nEnd ρ F H a w → Todo P gid N ops l F H F' H' → Region.ready .any ops listed = [] → l = [] := by
    intro listed l ρ F H a w hs ht hr
    cases l with
    | nil => rfl
    | cons x l =>
      exfalso
      have hx := hs.items x (List.mem_cons_self ..)
      have : x.i ∈ Region.ready .any ops listed := by
        rw [mem_ready]
        refine ⟨hx.2, x.o, hx.1, fun e he hb => ?_⟩
        have hlt := (hanc x.i x.o hx.1).2 e he hb
        have hxs : x.i < ops.size := (Array.getElem?_eq_some_iff.1 hx.1).1
        cases hl : listed.getD e.on false with
        | true => rfl
        | false =>
          exfalso
          have hsz : e.on < listed.size := by rw [hs.size]; omega
          have h2 : listed.getD e.on true = false := by
            rw [Array.getD_eq_getD_getElem?, Array.getElem?_eq_getElem hsz] at hl ⊢
            simpa using hl
          obtain ⟨y, hy, hyi⟩ := hs.all e.on (by omega) h2
          rcases List.mem_cons.1 hy with rfl | hy
          · omega
          · have := (List.pairwise_cons.1 hs.sorted).1 y hy
            omega
      rw [hr] at this
      cases this
  intro fuel
  induction fuel with
  | zero =>
    intro listed l ρ F H a w hl hs ht
    have : l = [] := List.eq_nil_of_length_eq_zero (by omega)
    subst this
    cases ht
    refine ⟨?_, hQ ρ a w ⟨hs.w, hs.f, hs.beyond, hkE⟩⟩
    cases hr : Region.ready .any ops listed with
    | nil => rfl
    | cons i r =>
      exfalso
      have hm : i ∈ Region.ready .any ops listed := by rw [hr]; exact List.mem_cons_self ..
      rw [mem_ready] at hm
      obtain ⟨h1, o, ho, _⟩ := hm
      obtain ⟨x, hx, _⟩ := hs.all i (Array.getElem?_eq_some_iff.1 ho).1 h1
      cases hx
  | succ fuel ih =>
    intro listed l ρ F H a w hl hs ht
    refine ⟨fun hr => ?_, fun i hi => ?_⟩
    · have := hend _ _ _ _ _ _ _ hs ht hr
      subst this
      cases ht
      exact hQ ρ a w ⟨hs.w, hs.f, hs.beyond, hkE⟩
    · rw [mem_ready] at hi
      obtain ⟨hun, o, ho, hpre⟩ := hi
      obtain ⟨y, hy, rfl⟩ := hs.all i (Array.getElem?_eq_some_iff.1 ho).1 hun
      obtain ⟨l1, l2, rfl⟩ := List.append_of_mem hy
      have hyo := (hs.items y hy).1
      rw [ho] at hyo; cases hyo
      have hindep : ∀ x ∈ l1, Indep ops x y := by
        intro x hx
        have h1 := (List.pairwise_append.1 hs.indep).2.2 x hx y (List.mem_cons_self ..)
        rcases h1 with h1 | h1
        · exfalso
          obtain ⟨e, he, hb, hor⟩ := (hanc y.i y.o ho).1 x.i h1
          have h2 := hpre e he hb
          have h3 := (hs.items x (List.mem_append_left _ hx)).2
          have h4 : listed.getD x.i false = true := by
            rcases hor with h5 | h5
            · rw [← h5]; exact h2
            · exact hs.closed _ h2 _ h5
          cases hg : listed[x.i]? with
          | none => simp [Array.getD_eq_getD_getElem?, hg] at h4
          | some b => simp [Array.getD_eq_getD_getElem?, hg] at h3 h4; simp [h3] at h4
        · exact h1
      have ht' := Todo.pull hindep ht
      cases ht' with
      | cons hdo ht'' =>
        have hkn := hs.kn y hy
        have hlen : (l1 ++ l2).length ≤ fuel := by simp at hl ⊢; omega
        have hsub : ∀ x, x ∈ l1 ++ l2 → x ∈ l1 ++ y :: l2 := fun x hx => by
          rcases List.mem_append.1 hx with h | h
          · exact List.mem_append_left _ h
          · exact List.mem_append_right _ (List.mem_cons_of_mem _ h)
        have hne : ∀ x, x ∈ l1 ++ l2 → x.i ≠ y.i := fun x hx => by
          rcases List.mem_append.1 hx with h | h
          · have := (List.pairwise_append.1 hs.sorted).2.2 x h y (List.mem_cons_self ..); omega
          · have := (List.pairwise_cons.1 (List.pairwise_append.1 hs.sorted).2.1).1 x h; omega
        have hdis : ∀ x, x ∈ l1 ++ l2 → x.r.n' ≤ y.r.n ∨ y.r.n' ≤ x.r.n := fun x hx => by
          rcases List.mem_append.1 hx with h | h
          · exact (List.pairwise_append.1 hs.apart).2.2 x h y (List.mem_cons_self ..)
          · exact ((List.pairwise_cons.1 (List.pairwise_append.1 hs.apart).2.1).1 x h).symm
        have hysz : y.i < listed.size := by rw [hs.size]; exact (Array.getElem?_eq_some_iff.1 ho).1
        have next : ∀ ρ' a' w', WSt P gid E ρ' (upd H y.r.cs y.r.pr) w' → FrOk N ρ' (fputO F y.o.dst y.r.v) a' → Grow y.r.n y.r.n' ρ ρ' →
            wpAny P .any ops Q fuel (listed.setIfInBounds y.i true) a' w' := by
          intro ρ' a' w' hw' hf' hgrow
          refine ih _ (l1 ++ l2) ρ' _ _ a' w' hlen ⟨hw', hf', fun x hx i h1 h2 => ?_, fun i h1 => ?_, fun x hx => hs.kn x (hsub x hx), pw_drop hs.apart, fun x hx => ⟨(hs.items x (hsub x hx)).1, ?_⟩, fun i hi hli => ?_, pw_drop hs.sorted, pw_drop hs.indep, fun j hj x hx => ?_, by simp [hs.size]⟩ ht''
          · cases hr : ρ' i with
            | none => rfl
            | some lc =>
              have h3 := hgrow.2 i (hs.fresh x (hsub x hx) i h1 h2) (by simp [hr])
              have := hdis x hx
              omega
          · cases hr : ρ' i with
            | none => rfl
            | some lc =>
              have h3 := hgrow.2 i (hs.beyond i h1) (by simp [hr])
              omega
          · rw [getD_set_ne true (Ne.symm (hne x hx))]
            exact (hs.items x (hsub x hx)).2
          · by_cases he : y.i = i
            · subst he; simp [Array.getD_eq_getD_getElem?, hysz] at hli
            · rw [getD_set_ne true he] at hli
              obtain ⟨x, hx, rfl⟩ := hs.all i hi hli
              refine ⟨x, ?_, rfl⟩
              rcases List.mem_append.1 hx with h | h
              · exact List.mem_append_left _ h
              · rcases List.mem_cons.1 h with rfl | h
                · exact absurd rfl he
                · exact List.mem_append_right _ h
          · by_cases he : y.i = j
            · subst he
              obtain ⟨e, he, hb, hor⟩ := (hanc y.i y.o ho).1 x hx
              have h2 := hpre e he hb
              refine getD_set_true ?_
              rcases hor with rfl | h5
              · exact h2
              · exact hs.closed _ h2 _ h5
            · rw [getD_set_ne false he] at hj
              exact getD_set_true (hs.closed j hj x hx)
        unfold wpOp
        rw [ho]
        simp only []
        obtain ⟨hd, hdo⟩ := hdo
        rcases hdo with ⟨hg, hrd, hcs, hop⟩ | ⟨j, b, hg, hb, hr⟩
        · have hw : Region.wanted y.o (yielded ops a.tmps) = true := by
            unfold Region.wanted
            rcases hg with hg | ⟨j, b, hg, hb⟩
            · simp [hg]
            · simp [hg, gval_yielded hs.f hb (hN j)]
          rw [if_pos hw]
          exact .inl (hop.2 E ρ H w a hs.w hkn.1 (fun x _ => ev_ok hs.w hs.f x) hrd hcs (hs.fresh y hy) _ _ fun ρ' w' x hgrow hw' hv => next ρ' _ w' hw' ((hs.f.ext hgrow.1).put hv hd) hgrow)
        · have hw : Region.wanted y.o (yielded ops a.tmps) = false := goff_wanted hs.f hg hb (hN j)
          rw [if_neg (by simp [hw])]
          have hv : y.r.v = undV := by rw [hr]
          refine next ρ _ w ?_ (hs.f.put (by rw [hv]; simp [undV, Vr]) hd) ⟨Ext.refl ρ, fun i h1 h2 => absurd h1 h2⟩
          rw [hr, upd_nil]
          exact hs.w
/-! ### From the order of the places -/
def itemsOf : Nat → List Oper → List Rec → List Item
  | j, o :: l, r :: rs => ⟨j, o, r⟩ :: itemsOf (j + 1) l rs
  | _, _, _ => []

theorem itemsOf_mem {ops : Array Oper} : ∀ {l : List Oper} {rs : List Rec} {j : Nat}, (∀ i o, l[i]? = some o → ops[j + i]? = some o) → ∀ x ∈ itemsOf j l rs, ops[x.i]? = some x.o ∧ j ≤ x.i
  | [], _, _, _, x, hx => by simp [itemsOf] at hx
  | _ :: _, [], _, _, x, hx => by simp [itemsOf] at hx
  | o :: l, r :: rs, j, h, x, hx => by
    simp only [itemsOf, List.mem_cons] at hx
    rcases hx with rfl | hx
    · exact ⟨by simpa using h 0 o rfl, Nat.le_refl _⟩
    · have := itemsOf_mem (j := j + 1) (fun i o' hi => by have := h (i + 1) o' (by simpa using hi); rw [← this]; congr 1; omega) x hx
      exact ⟨this.1, by omega⟩

theorem Run.todo {N : Nat} {ops : Array Oper} {l : List Oper} {F : FF} {H : Hp} {n : Nat} {recs : List Rec} {F' : FF} {H' : Hp} {n' : Nat} (h : Run P gid N ops l F H n recs F' H' n') : ∀ j, Todo P gid N ops (itemsOf j l recs) F H F' H' ∧ recs.length = l.length ∧ n ≤ n' ∧
    (∀ x ∈ itemsOf j l recs, n ≤ x.r.n ∧ x.r.n ≤ x.r.n' ∧ x.r.n' ≤ n') ∧ (itemsOf j l recs).Pairwise (fun x y => x.r.n' ≤ y.r.n ∨ y.r.n' ≤ x.r.n) := by
  induction h with
  | nil F H n => intro j; exact ⟨.nil _ _, rfl, Nat.le_refl _, fun x hx => by simp [itemsOf] at hx, by simp [itemsOf]⟩
  | @step o rest F H n rd cs pr n1 v recs F' H' n'' hg hd hrd hcs hop hr ih =>
    intro j
    obtain ⟨h1, h2, h3, h4, h5⟩ := ih (j + 1)
    refine ⟨.cons ⟨hd, .inl ⟨hg, hrd, hcs, hop⟩⟩ h1, by simp [h2], Nat.le_trans hop.1 h3, fun x hx => ?_, ?_⟩
    · simp only [itemsOf, List.mem_cons] at hx
      rcases hx with rfl | hx
      · exact ⟨Nat.le_refl _, hop.1, h3⟩
      · have := h4 x hx
        have := hop.1
        omega
    · simp only [itemsOf, List.pairwise_cons]
      exact ⟨fun x hx => .inl (h4 x hx).1, h5⟩
  | @skip o rest F H n recs F' H' n'' i b hg hb hd hr ih =>
    intro j
    obtain ⟨h1, h2, h3, h4, h5⟩ := ih (j + 1)
    refine ⟨.cons ⟨hd, .inr ⟨i, b, hg, hb, rfl⟩⟩ (by simpa only [upd_nil] using h1), by simp [h2], h3, fun x hx => ?_, ?_⟩
    · simp only [itemsOf, List.mem_cons] at hx
      rcases hx with rfl | hx
      · exact ⟨Nat.le_refl _, Nat.le_refl _, h3⟩
      · exact h4 x hx
    · simp only [itemsOf, List.pairwise_cons]
      exact ⟨fun x hx => .inl (h4 x hx).1, h5⟩

theorem itemsOf_sorted : ∀ (l : List Oper) (rs : List Rec) (j : Nat), (itemsOf j l rs).Pairwise (fun x y => x.i < y.i) ∧ ∀ x ∈ itemsOf j l rs, j ≤ x.i
  | [], _, _ => by simp [itemsOf]
  | _ :: _, [], _ => by simp [itemsOf]
  | o :: l, r :: rs, j => by
    obtain ⟨h1, h2⟩ := itemsOf_sorted l rs (j + 1)
    refine ⟨?_, fun x hx => ?_⟩
    · simp only [itemsOf, List.pairwise_cons]
      exact ⟨fun x hx => by have := h2 x hx; show j < x.i; omega, h1⟩
    · simp only [itemsOf, List.mem_cons] at hx
      rcases hx with rfl | hx
      · exact Nat.le_refl _
      · have := h2 x hx; omega
theorem itemsOf_all : ∀ {l : List Oper} {rs : List Rec} (j : Nat), rs.length = l.length → ∀ i, i < l.length → ∃ x ∈ itemsOf j l rs, x.i = j + i
  | o :: l, r :: rs, j, h, 0, _ => ⟨_, List.mem_cons_self .., rfl⟩
  | o :: l, r :: rs, j, h, i + 1, hi => by
    obtain ⟨x, hx, he⟩ := itemsOf_all (l := l) (rs := rs) (j + 1) (by simpa using h) i (by simpa using hi)
    exact ⟨x, List.mem_cons_of_mem _ hx, by omega⟩
  | [], _, _, _, i, hi => by simp at hi
  | _ :: _, [], _, h, _, _ => by simp at h

theorem WSt.drawn {E : Ent} {ρ : Env} {H : Hp} {w : World} (h : WSt P gid E ρ H w) (d : Nat) : WSt P gid E ρ H { w with drawn := d } := by
  refine ⟨⟨fun b k hb => ?_, h.own.sep⟩, h.ext, ⟨h.kept.os, h.kept.tape, h.kept.output, h.kept.size, h.kept.block⟩, h.mine, h.glob⟩
  have := h.own.ok b k hb
  cases k with
  | ro l => exact this
  | own e cs => exact this
  | mp es => exact this
  | it s p => exact this

/-- A REGION IN ANY ORDER: as in the order of the places, if what has no order leaves each other alone. -/
theorem wp_any {N : Nat} {id : Nat} {ops : Array Oper} {anc : Nat → List Nat} (hm : P.follows .mixedOrders = true) (hanc : AncOk ops anc) (hN : ∀ (j d : Nat), (ops[j]?).bind (·.dst) = some d → d < N) {F : FF} {H : Hp} {n : Nat} {recs : List Rec} {F' : FF} {H' : Hp} {n' : Nat}
    (h : Run P gid N ops ops.toList F H n recs F' H' n') (hi : (itemsOf 0 ops.toList recs).Pairwise fun x y => x.i ∈ anc y.i ∨ Indep ops x y)
    {E : Ent} {ρ : Env} {a : Act} {w : World} {Q : Exit → Act → World → Prop} (hs : St P gid N E ρ F H n a w) (hQ : ∀ ρ' a' w', St P gid N E ρ' F' H' n' a' w' → Q .normal a' w') :
    (Code.region id ops true).wp P Q a w := by
  obtain ⟨h1, h2, h3, h4, h5⟩ := h.todo 0
  have hl : (itemsOf 0 ops.toList recs).length ≤ ops.size := by
    have : ∀ (l : List Oper) (rs : List Rec) (j : Nat), (itemsOf j l rs).length ≤ l.length := by
      intro l
      induction l with
      | nil => intro rs j; simp [itemsOf]
      | cons o l ih =>
        intro rs j
        cases rs with
        | nil => simp [itemsOf]
        | cons r rs => simpa [itemsOf] using ih rs (j + 1)
    simpa using this ops.toList recs 0
  have hnot : ∀ j, (Array.replicate ops.size false).getD j false = false := fun j => by
    rw [Array.getD_eq_getD_getElem?]
    cases hg : (Array.replicate ops.size false)[j]? with
    | none => rfl
    | some b => rw [Array.getElem?_replicate] at hg; split at hg <;> simp at hg; simp [hg]
  refine wp_region_any hm (wpAny_todo hanc hN (E := E) (nEnd := n') (F' := F') (H' := H') (Nat.le_trans hs.kn h3) (fun ρ' a' w' h => hQ ρ' a' w' h) ops.size _ (itemsOf 0 ops.toList recs) ρ F H a _ hl ⟨hs.w.drawn _, hs.f, fun x hx i h6 _ => hs.fresh i (Nat.le_trans (h4 x hx).1 h6), fun i h6 => hs.fresh i (Nat.le_trans h3 h6), fun x hx => ⟨Nat.le_trans hs.kn (h4 x hx).1, (h4 x hx).2.2⟩, h5, fun x hx => ?_, fun i hi _ => ?_, (itemsOf_sorted _ _ _).1, hi, fun j hj => absurd (hj.symm.trans (hnot j)) (by simp), by simp⟩ h1)
  · have := itemsOf_mem (ops := ops) (l := ops.toList) (rs := recs) (j := 0) (fun i o h => by simpa using h) x hx
    refine ⟨this.1, ?_⟩
    have hlt := (Array.getElem?_eq_some_iff.1 this.1).1
    simp [Array.getD_eq_getD_getElem?, hlt]
  · obtain ⟨x, hx, he⟩ := itemsOf_all (l := ops.toList) (rs := recs) 0 h2 i (by simpa using hi)
    exact ⟨x, hx, by omega⟩
end
end Go.Abs
