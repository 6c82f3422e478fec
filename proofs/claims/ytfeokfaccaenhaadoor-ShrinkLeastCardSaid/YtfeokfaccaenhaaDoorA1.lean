/- The abstract logic, part 1: frames, operations, regions in order, code, calls. -/
import Derived.Test.YtfeokfaccaenhaaDoorA0
set_option linter.unusedVariables false
set_option linter.unusedSimpArgs false
namespace Go.Abs

/-! ### Frames -/
abbrev FF := Nat → V
abbrev Fr := List (Nat × V)
def fget : Fr → FF
  | [], _ => .any
  | (d, v) :: l, i => if i = d then v else fget l i
def fput (F : FF) (d : Nat) (v : V) : FF := fun i => if i = d then v else F i
theorem fget_cons (d : Nat) (v : V) (l : Fr) : fget ((d, v) :: l) = fput (fget l) d v := rfl
theorem fput_same {F : FF} {d : Nat} {v : V} (h : F d = v) : fput F d v = F := by
  funext i
  unfold fput
  split
  · rename_i e; rw [e, h]
  · rfl
def fputO (F : FF) (d : Option Nat) (v : V) : FF := match d with | some d => fput F d v | none => F

/-- The frame tells what the slots hold. -/
structure FrOk (N : Nat) (ρ : Env) (F : FF) (a : Act) : Prop where
  slots : ∀ d, Vr ρ (F d) (a.tmps.getD d undef)
  size : a.tmps.size = N
  defers : a.defers = []

theorem FrOk.ext {N : Nat} {ρ ρ' : Env} {F : FF} {a : Act} (h : FrOk N ρ F a) (he : Ext ρ ρ') : FrOk N ρ' F a :=
  ⟨fun d => Vr.ext he _ _ (h.slots d), h.size, h.defers⟩

theorem FrOk.weak {N : Nat} {ρ : Env} {F G : FF} {a : Act} (h : FrOk N ρ F a) (hg : ∀ d, G d = F d ∨ G d = .any) : FrOk N ρ G a :=
  ⟨fun d => by rcases hg d with e | e <;> rw [e] <;> first | exact h.slots d | simp [Vr], h.size, h.defers⟩

theorem FrOk.put {N : Nat} {ρ : Env} {F : FF} {a : Act} (h : FrOk N ρ F a) {d : Option Nat} {v : V} {x : Value} (hv : Vr ρ v x) (hd : ∀ i, d = some i → i < N) :
    FrOk N ρ (fputO F d v) (a.put d x) := by
  cases d with
  | none => exact ⟨h.slots, h.size, h.defers⟩
  | some i =>
    refine ⟨fun j => ?_, by simp [Act.put, h.size], h.defers⟩
    have hi := hd i rfl
    simp only [fputO, fput, Act.put]
    by_cases e : j = i
    · subst e
      rw [if_pos rfl]
      have : (a.tmps.setIfInBounds j x).getD j undef = x := by
        have hlt : j < a.tmps.size := by rw [h.size]; exact hi
        simp [Array.getD, hlt]
      rw [this]; exact hv
    · rw [if_neg e]
      have : (a.tmps.setIfInBounds i x).getD j undef = a.tmps.getD j undef := by
        simp [Array.getElem?_setIfInBounds_ne (Ne.symm e)]
      rw [this]; exact h.slots j

section
variable (P : Program) (gid : Nat → Option Nat)

def ev (F : FF) : Operand → V
  | .tmp t => F t
  | .const v => .val v
  | .global g => match gid g with | some id => .ptr id 0 | none => .any
  | .func f => .fn f []

variable {P gid}
theorem ev_ok {N : Nat} {E : Ent} {ρ : Env} {H : Hp} {w : World} {F : FF} {a : Act} (hw : WSt P gid E ρ H w) (hf : FrOk N ρ F a) (x : Operand) : Vr ρ (ev gid F x) (a.eval x) := by
  cases x with
  | tmp t => exact hf.slots t
  | const v => simp [ev, Act.eval, Vr]
  | global g =>
    simp only [ev, Act.eval]
    cases h : gid g with
    | none => simp [Vr]
    | some id =>
      obtain ⟨_, c, hc⟩ := hw.glob g id h
      simp only [Vr]
      exact ⟨_, _, hc, rfl, by simp [Addr.add]⟩
  | func f => simp only [ev, Act.eval, Vr]; exact ⟨[], rfl, by simp [VrL]⟩
variable (P gid)

/-! ### One operation -/
def Grow (n n' : Nat) (ρ ρ' : Env) : Prop := Ext ρ ρ' ∧ ∀ i, ρ i = none → ρ' i ≠ none → n ≤ i ∧ i < n'

def OpOK (o : Oper) (F : FF) (rd cs pr : HL) (n n' : Nat) (v : V) : Prop :=
  n ≤ n' ∧ ∀ (E : Ent) (ρ : Env) (H : Hp) (w : World) (a : Act), WSt P gid E ρ H w → E.k ≤ n → (∀ x ∈ o.op.operands, Vr ρ (ev gid F x) (a.eval x)) →
    (∀ b k, lk rd b = some k → H b = some k) → (∀ b k, lk cs b = some k → H b = some k) → (∀ i, n ≤ i → i < n' → ρ i = none) →
    ∀ (K : Act → World → Prop) (Q : Exit → Act → World → Prop),
      (∀ ρ' w' x, Grow n n' ρ ρ' → WSt P gid E ρ' (upd H cs pr) w' → Vr ρ' v x → K (a.put o.dst x) w') → o.wp P a w K Q

def gval (ops : Array Oper) (F : FF) (j : Nat) : Option Bool :=
  match (ops[j]?).bind (·.dst) with
  | some d => match F d with | .val (.bool b) => some b | _ => none
  | none => none

/-- What the slot of an operation that is not done holds. -/
def undV : V := .val undef
/-- A guard that says no: the other truth value, or nothing. -/
def goff (ops : Array Oper) (F : FF) (j : Nat) (b : Bool) : Prop := ∃ d, (ops[j]?).bind (·.dst) = some d ∧ (F d = .val (.bool (!b)) ∨ F d = undV)

structure Rec where
  v : V
  rd : HL
  cs : HL
  pr : HL
  n : Nat
  n' : Nat

inductive Run (N : Nat) (ops : Array Oper) : List Oper → FF → Hp → Nat → List Rec → FF → Hp → Nat → Prop
  | nil (F H n) : Run N ops [] F H n [] F H n
  | step {o : Oper} {rest F H n rd cs pr n' v recs F' H' n''} (hg : o.guard = none ∨ ∃ j b, o.guard = some (j, b) ∧ gval ops F j = some b) (hd : ∀ i, o.dst = some i → i < N)
      (hrd : ∀ b k, lk rd b = some k → H b = some k) (hcs : ∀ b k, lk cs b = some k → H b = some k)
      (h : OpOK P gid o F rd cs pr n n' v) (hr : Run N ops rest (fputO F o.dst v) (upd H cs pr) n' recs F' H' n'') :
      Run N ops (o :: rest) F H n (⟨v, rd, cs, pr, n, n'⟩ :: recs) F' H' n''
  | skip {o : Oper} {rest F H n recs F' H' n''} {j : Nat} {b : Bool} (hg : o.guard = some (j, b)) (hb : goff ops F j b) (hd : ∀ i, o.dst = some i → i < N)
      (hr : Run N ops rest (fputO F o.dst undV) H n recs F' H' n'') :
      Run N ops (o :: rest) F H n (⟨undV, [], [], [], n, n⟩ :: recs) F' H' n''

variable {P gid}

theorem gval_yielded {N : Nat} {ρ : Env} {F : FF} {a : Act} (hf : FrOk N ρ F a) {ops : Array Oper} {j : Nat} {b : Bool} (h : gval ops F j = some b)
    (hN : ∀ d, (ops[j]?).bind (·.dst) = some d → d < N) : yielded ops a.tmps j = some b := by
  unfold gval at h
  unfold yielded
  cases hd : (ops[j]?).bind (·.dst) with
  | none => simp [hd] at h
  | some d =>
    simp only [hd] at h
    have hs := hf.slots d
    have hlt : d < a.tmps.size := by rw [hf.size]; exact hN d hd
    cases hF : F d with
    | val x =>
      rw [hF] at h hs
      cases x <;> simp at h
      subst h
      simp only [Vr] at hs
      simp [hlt] at hs
      simp [hlt, hs]
    | _ => rw [hF] at h; simp at h

theorem goff_wanted {N : Nat} {ρ : Env} {F : FF} {a : Act} (hf : FrOk N ρ F a) {ops : Array Oper} {o : Oper} {j : Nat} {b : Bool} (hg : o.guard = some (j, b)) (h : goff ops F j b)
    (hN : ∀ d, (ops[j]?).bind (·.dst) = some d → d < N) : Region.wanted o (yielded ops a.tmps) = false := by
  obtain ⟨d, hd, hv⟩ := h
  have hs := hf.slots d
  have hlt : d < a.tmps.size := by rw [hf.size]; exact hN d hd
  unfold Region.wanted yielded
  rw [hg]
  simp only [hd]
  rcases hv with hv | hv
  · rw [hv] at hs
    simp only [Vr] at hs
    simp [hlt] at hs
    simp [hlt, hs]
  · rw [hv] at hs
    simp only [undV, Vr] at hs
    simp [hlt] at hs
    simp [hlt, hs, undef]

theorem Grow.trans {n n' n'' : Nat} {a b c : Env} (h : Grow n n' a b) (k : Grow n' n'' b c) (h1 : n ≤ n') (h2 : n' ≤ n'') : Grow n n'' a c := by
  refine ⟨h.1.trans k.1, fun i hi hc => ?_⟩
  cases hb : b i with
  | none => have := k.2 i hb hc; omega
  | some l => have := h.2 i hi (by simp [hb]); omega

/-- The state at a point of a function. -/
structure St (P : Program) (gid : Nat → Option Nat) (N : Nat) (E : Ent) (ρ : Env) (F : FF) (H : Hp) (n : Nat) (a : Act) (w : World) : Prop where
  w : WSt P gid E ρ H w
  f : FrOk N ρ F a
  fresh : ∀ i, n ≤ i → ρ i = none
  kn : E.k ≤ n

theorem OpOK.le {o : Oper} {F : FF} {rd cs pr : HL} {n n' : Nat} {v : V} (h : OpOK P gid o F rd cs pr n n' v) : n ≤ n' := h.1

theorem Run.sound {N : Nat} {ops : Array Oper} (hN : ∀ (j d : Nat), (ops[j]?).bind (·.dst) = some d → d < N) {l : List Oper} {F : FF} {H : Hp} {n : Nat} {recs : List Rec} {F' : FF} {H' : Hp} {n' : Nat}
    (h : Run P gid N ops l F H n recs F' H' n') : ∀ {E : Ent} {ρ : Env} {a : Act} {w : World} {Q : Exit → Act → World → Prop}, St P gid N E ρ F H n a w →
      (∀ ρ' a' w', St P gid N E ρ' F' H' n' a' w' → Q .normal a' w') → wpList P ops Q l a w := by
  induction h with
  | nil F H n => intro E ρ a w Q hs hQ; exact wpList_nil (hQ _ _ _ hs)
  | @step o rest F H n rd cs pr n1 v recs F' H' n'' hg hd hrd hcs hop hr ih =>
    intro E ρ a w Q hs hQ
    unfold wpList
    have hw : Region.wanted o (yielded ops a.tmps) = true := by
      unfold Region.wanted
      rcases hg with hg | ⟨j, b, hg, hb⟩
      · simp [hg]
      · simp [hg, gval_yielded hs.f hb (hN j)]
    rw [if_pos hw]
    refine .inl (hop.2 E ρ H w a hs.w hs.kn (fun x _ => ev_ok hs.w hs.f x) hrd hcs (fun i hi _ => hs.fresh i hi) _ _ fun ρ' w' x hgrow hw' hv => ?_)
    refine ih ⟨hw', (hs.f.ext hgrow.1).put hv hd, fun i hi => ?_, Nat.le_trans hs.kn hop.1⟩ hQ
    cases hr' : ρ' i with
    | none => rfl
    | some l =>
      have := hgrow.2 i (hs.fresh i (Nat.le_trans hop.1 hi)) (by simp [hr'])
      omega
  | @skip o rest F H n recs F' H' n'' j b hg hb hd hr ih =>
    intro E ρ a w Q hs hQ
    unfold wpList
    have hw : Region.wanted o (yielded ops a.tmps) = false := goff_wanted hs.f hg hb (hN j)
    rw [if_neg (by simp [hw])]
    exact ih ⟨hs.w, hs.f.put (by simp [undV, Vr]) hd, hs.fresh, hs.kn⟩ hQ

/-! ### Code -/
variable (P gid)
/-- From the state (F, H, n) the code comes to Q. -/
def Tri (N kk : Nat) (c : Code) (F : FF) (H : Hp) (n : Nat) (Q : Exit → FF → Hp → Nat → Prop) : Prop :=
  ∀ (E : Ent) (ρ : Env) (a : Act) (w : World), E.k = kk → St P gid N E ρ F H n a w → c.wp P (fun e a' w' => ∃ ρ' F' H' n', St P gid N E ρ' F' H' n' a' w' ∧ Q e F' H' n') a w
variable {P gid} {N kk : Nat}

theorem Tri.mono {c : Code} {F : FF} {H : Hp} {n : Nat} {Q Q' : Exit → FF → Hp → Nat → Prop} (h : Tri P gid N kk c F H n Q) (hq : ∀ e F H n, Q e F H n → Q' e F H n) : Tri P gid N kk c F H n Q' :=
  fun E ρ a w hk hs => wp_mono (h E ρ a w hk hs) fun _ _ _ ⟨ρ', F', H', n', h1, h2⟩ => ⟨ρ', F', H', n', h1, hq _ _ _ _ h2⟩

theorem Tri.skip {F : FF} {H : Hp} {n : Nat} {Q : Exit → FF → Hp → Nat → Prop} (h : Q .normal F H n) : Tri P gid N kk .skip F H n Q :=
  fun E ρ a w hk hs => wp_skip ⟨ρ, F, H, n, hs, h⟩
theorem Tri.exit {id : Nat} {F : FF} {H : Hp} {n : Nat} {Q : Exit → FF → Hp → Nat → Prop} (h : Q (.exit id) F H n) : Tri P gid N kk (.exit id) F H n Q :=
  fun E ρ a w hk hs => wp_exit ⟨ρ, F, H, n, hs, h⟩
theorem Tri.ret {F : FF} {H : Hp} {n : Nat} {Q : Exit → FF → Hp → Nat → Prop} (h : Q .ret F H n) : Tri P gid N kk .ret F H n Q :=
  fun E ρ a w hk hs => wp_ret ⟨ρ, F, H, n, hs, h⟩

def thenQ (k : FF → Hp → Nat → Prop) (Q : Exit → FF → Hp → Nat → Prop) : Exit → FF → Hp → Nat → Prop
  | .normal => k
  | e => Q e

theorem Tri.seq {x y : Code} {F : FF} {H : Hp} {n : Nat} {Q : Exit → FF → Hp → Nat → Prop} (h : Tri P gid N kk x F H n (thenQ (fun F H n => Tri P gid N kk y F H n Q) Q)) : Tri P gid N kk (.seq x y) F H n Q := by
  intro E ρ a w hk hs
  refine wp_seq (wp_mono (h E ρ a w hk hs) fun e a' w' ⟨ρ', F', H', n', h1, h2⟩ => ?_)
  cases e with
  | normal => exact h2 E ρ' a' w' hk h1
  | _ => exact ⟨ρ', F', H', n', h1, h2⟩

def blockQ (id : Nat) (Q : Exit → FF → Hp → Nat → Prop) : Exit → FF → Hp → Nat → Prop
  | .exit id' => if id' = id then Q .normal else Q (.exit id')
  | e => Q e

theorem Tri.block {id : Nat} {c : Code} {F : FF} {H : Hp} {n : Nat} {Q : Exit → FF → Hp → Nat → Prop} (h : Tri P gid N kk c F H n (blockQ id Q)) : Tri P gid N kk (.block id c) F H n Q := by
  intro E ρ a w hk hs
  refine wp_block (wp_mono (h E ρ a w hk hs) fun e a' w' ⟨ρ', F', H', n', h1, h2⟩ => ?_)
  cases e with
  | exit id' =>
    simp only [Exit.inBlock, blockQ] at h2 ⊢
    split
    · rename_i e; rw [if_pos e] at h2; exact ⟨ρ', F', H', n', h1, h2⟩
    · rename_i e; rw [if_neg e] at h2; exact ⟨ρ', F', H', n', h1, h2⟩
  | _ => exact ⟨ρ', F', H', n', h1, h2⟩

theorem Tri.cond {c : Operand} {x y : Code} {F : FF} {H : Hp} {n : Nat} {Q : Exit → FF → Hp → Nat → Prop} {t : Bool} (hc : ev gid F c = .val (.bool t))
    (h1 : t = true → Tri P gid N kk x F H n Q) (h2 : t = false → Tri P gid N kk y F H n Q) : Tri P gid N kk (.cond c x y) F H n Q := by
  intro E ρ a w hk hs
  have he := ev_ok hs.w hs.f c
  rw [hc] at he
  simp only [Vr] at he
  exact wp_cond_split he (fun h => h1 h E ρ a w hk hs) (fun h => h2 h E ρ a w hk hs)

/-- A loop, by whatever is closed under its round. -/
theorem wp_loop_X {c : Code} {Q : Exit → Act → World → Prop} {a : Act} {w : World} (h : ∀ X : Act → World → Prop, (∀ a w, c.wp P (Exit.then X Q) a w → X a w) → X a w) : (Code.loop c).wp P Q a w := by
  have key := h (fun a w => ∀ (b : Frame) (k : List Item) (cs : List Frame), ∃ e a' w', Q e a' w' ∧ Arrives P (lone (b.at a (.code c :: .inLoop c :: k)) cs w) b k cs e a' w') (by
    intro a w hr b k cs
    obtain ⟨e, a₁, w₁, hq, harr⟩ := hr b (.inLoop c :: k) cs
    cases e with
    | normal =>
      obtain ⟨e₂, a₂, w₂, hq₂, harr₂⟩ := hq b k cs
      exact ⟨e₂, a₂, w₂, hq₂, .of_steps (Steps.trans harr (.one step_inLoop)) harr₂⟩
    | exit id => exact ⟨_, a₁, w₁, hq, .pass (x := .inLoop c) rfl (fun _ _ => .inl (by simp)) harr⟩
    | goto l => exact ⟨_, a₁, w₁, hq, .pass (x := .inLoop c) rfl (fun _ _ => .inl (by simp)) harr⟩
    | ret => exact ⟨_, a₁, w₁, hq, .pass (x := .inLoop c) rfl (fun _ _ => .inl (by simp)) harr⟩
    | panic ch => exact ⟨_, a₁, w₁, hq, .pass (x := .inLoop c) rfl (fun _ _ => .inl (by simp)) harr⟩
    | outgrown => exact ⟨_, a₁, w₁, hq, .pass (x := .inLoop c) rfl (fun _ _ => .inl (by simp)) harr⟩)
  intro b k cs
  obtain ⟨e, a', w', hq, harr⟩ := key b k cs
  exact ⟨e, a', w', hq, .of_steps (.one step_loop) harr⟩

theorem Tri.region {id : Nat} {ops : Array Oper} (hN : ∀ (j d : Nat), (ops[j]?).bind (·.dst) = some d → d < N) {F : FF} {H : Hp} {n : Nat} {recs : List Rec} {F' : FF} {H' : Hp} {n' : Nat}
    {Q : Exit → FF → Hp → Nat → Prop} (h : Run P gid N ops ops.toList F H n recs F' H' n') (hq : Q .normal F' H' n') : Tri P gid N kk (.region id ops false) F H n Q :=
  fun E ρ a w hk hs => wp_region_list (Run.sound hN h hs fun ρ' a' w' hs' => ⟨ρ', F', H', n', hs', hq⟩)
end
end Go.Abs
