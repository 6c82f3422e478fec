/- The abstract logic, part 6: states as lists; steps of a region; functions and calls. -/
import Derived.Test.YtfeokfaccaenhaaDoorA5
set_option linter.unusedVariables false
set_option linter.unusedSimpArgs false
namespace Go.Abs

/-! ### States as lists -/
def del (b : Nat) : HL → HL
  | [] => []
  | (c, k) :: l => if b = c then del b l else (c, k) :: del b l
def dels : HL → HL → HL
  | [], L => L
  | (b, _) :: cs, L => dels cs (del b L)
def updL (L cs pr : HL) : HL := pr ++ dels cs L

theorem lk_append (l m : HL) (i : Nat) : lk (l ++ m) i = match lk l i with | some k => some k | none => lk m i := by
  induction l with
  | nil => rfl
  | cons p l ih =>
    obtain ⟨b, k⟩ := p
    simp only [List.cons_append, lk]
    split
    · rfl
    · exact ih
theorem lk_del (b : Nat) (l : HL) (i : Nat) : lk (del b l) i = if i = b then none else lk l i := by
  induction l with
  | nil => simp [del, lk]
  | cons p l ih =>
    obtain ⟨c, k⟩ := p
    simp only [del]
    split
    · rename_i e; subst e
      rw [ih]
      split
      · rfl
      · rename_i h; simp [lk, h]
    · rename_i e
      simp only [lk]
      split
      · rename_i h; subst h
        rw [if_neg (Ne.symm e)]
      · exact ih
theorem lk_dels : ∀ (cs L : HL) (i : Nat), lk (dels cs L) i = if (lk cs i).isSome then none else lk L i
  | [], L, i => by simp [dels, lk]
  | (b, k) :: cs, L, i => by
    simp only [dels, lk]
    rw [lk_dels cs, lk_del]
    by_cases e : i = b
    · simp [e]
    · simp [e]
theorem lk_updL (L cs pr : HL) : lk (updL L cs pr) = upd (lk L) cs pr := by
  funext i
  simp only [updL, lk_append, lk_dels, upd]
  split <;> simp_all

def setO (fr : Fr) : Option Tmp → V → Fr
  | some d, v => (d, v) :: fr
  | none, _ => fr
theorem fget_setO (fr : Fr) (d : Option Tmp) (v : V) : fget (setO fr d v) = fputO (fget fr) d v := by
  cases d <;> rfl

section
variable (P : Program) (gid : Nat → Option Nat)

/-- The operations lead from the state to one of which K holds. -/
def RT (N : Nat) (ops : Array Oper) (l : List Oper) (fr : Fr) (L : HL) (n : Nat) (K : List Rec → Fr → HL → Nat → Prop) : Prop :=
  ∃ recs fr' L' n', Run P gid N ops l (fget fr) (lk L) n recs (fget fr') (lk L') n' ∧ K recs fr' L' n'

variable {P gid} {N : Nat} {ops : Array Oper} {rest : List Oper} {fr : Fr} {L : HL} {n : Nat} {K : List Rec → Fr → HL → Nat → Prop}

theorem RT.nil (h : K [] fr L n) : RT P gid N ops [] fr L n K := ⟨[], fr, L, n, .nil _ _ _, h⟩

def inDst (N : Nat) : Option Tmp → Prop
  | some d => d < N
  | none => True
theorem inDst_spec {N : Nat} {d : Option Tmp} (h : inDst N d) : ∀ i, d = some i → i < N := fun i e => by subst e; exact h

def within (L rd : HL) : Prop := ∀ b k, lk rd b = some k → lk L b = some k
theorem within_nil (L : HL) : within L [] := fun b k h => by simp [lk] at h
theorem within_one {L : HL} {b : Nat} {k : Blk} (h : lk L b = some k) : within L [(b, k)] := fun b' k' h' => by
  rw [lk_one] at h'
  split at h'
  · rename_i e; cases h'; rw [e]; exact h
  · cases h'
theorem within_cons {L rd : HL} {b : Nat} {k : Blk} (h : lk L b = some k) (hr : within L rd) : within L ((b, k) :: rd) := fun b' k' h' => by
  simp only [lk] at h'
  split at h'
  · rename_i e; cases h'; rw [e]; exact h
  · exact hr _ _ h'

theorem RT.step {o : Oper} {rd cs pr : HL} {n' : Nat} {v : V} (h : OpOK P gid o (fget fr) rd cs pr n n' v) (hg : o.guard = none ∨ ∃ j b, o.guard = some (j, b) ∧ gval ops (fget fr) j = some b) (hd : inDst N o.dst)
    (hrd : within L rd) (hcs : within L cs) (hr : RT P gid N ops rest (setO fr o.dst v) (updL L cs pr) n' (fun recs => K (⟨v, rd, cs, pr, n, n'⟩ :: recs))) : RT P gid N ops (o :: rest) fr L n K := by
  obtain ⟨recs, fr', L', n'', hrun, hK⟩ := hr
  rw [fget_setO, lk_updL] at hrun
  exact ⟨_, fr', L', n'', .step hg (inDst_spec hd) hrd hcs h hrun, hK⟩

theorem RT.skip {o : Oper} {j : Nat} {b : Bool} (hg : o.guard = some (j, b)) (hb : goff ops (fget fr) j b) (hd : inDst N o.dst)
    (hr : RT P gid N ops rest (setO fr o.dst undV) L n (fun recs => K (⟨undV, [], [], [], n, n⟩ :: recs))) : RT P gid N ops (o :: rest) fr L n K := by
  obtain ⟨recs, fr', L', n'', hrun, hK⟩ := hr
  rw [fget_setO] at hrun
  exact ⟨_, fr', L', n'', .skip hg hb (inDst_spec hd) hrun, hK⟩

/-- A slot that holds a truth value is looked at: two ways. -/
theorem RT.split {l : List Oper} {s : Nat} {t : Bool} (hs : fget fr s = .val (.bool t)) (h1 : t = true → RT P gid N ops l ((s, .val (.bool true)) :: fr) L n K)
    (h2 : t = false → RT P gid N ops l ((s, .val (.bool false)) :: fr) L n K) : RT P gid N ops l fr L n K := by
  cases t
  · have e : fget ((s, .val (.bool false)) :: fr) = fget fr := fput_same hs
    have := h2 rfl
    unfold RT at this ⊢
    rwa [e] at this
  · have e : fget ((s, .val (.bool true)) :: fr) = fget fr := fput_same hs
    have := h1 rfl
    unfold RT at this ⊢
    rwa [e] at this

/-! ### Code over lists -/
variable (P gid)
def TL (N kk : Nat) (c : Code) (fr : Fr) (L : HL) (n : Nat) (Q : Exit → Fr → HL → Nat → Prop) : Prop :=
  Tri P gid N kk c (fget fr) (lk L) n fun e F H n' => ∃ fr' L', F = fget fr' ∧ H = lk L' ∧ Q e fr' L' n'
variable {P gid} {kk : Nat} {c x y : Code} {Q : Exit → Fr → HL → Nat → Prop}

theorem TL.skip (h : Q .normal fr L n) : TL P gid N kk .skip fr L n Q := Tri.skip ⟨fr, L, rfl, rfl, h⟩
theorem TL.exit {id : Nat} (h : Q (.exit id) fr L n) : TL P gid N kk (.exit id) fr L n Q := Tri.exit ⟨fr, L, rfl, rfl, h⟩
theorem TL.ret (h : Q .ret fr L n) : TL P gid N kk .ret fr L n Q := Tri.ret ⟨fr, L, rfl, rfl, h⟩
def thenL (k : Fr → HL → Nat → Prop) (Q : Exit → Fr → HL → Nat → Prop) : Exit → Fr → HL → Nat → Prop
  | .normal => k
  | e => Q e
theorem TL.seq (h : TL P gid N kk x fr L n (thenL (fun fr L n => TL P gid N kk y fr L n Q) Q)) : TL P gid N kk (.seq x y) fr L n Q := by
  refine Tri.seq (Tri.mono h fun e F H n' ⟨fr', L', hF, hH, hq⟩ => ?_)
  cases e with
  | normal => subst hF; subst hH; exact hq
  | _ => exact ⟨fr', L', hF, hH, hq⟩
def blockL (id : Nat) (Q : Exit → Fr → HL → Nat → Prop) : Exit → Fr → HL → Nat → Prop
  | .exit id' => if id' = id then Q .normal else Q (.exit id')
  | e => Q e
theorem TL.block {id : Nat} (h : TL P gid N kk c fr L n (blockL id Q)) : TL P gid N kk (.block id c) fr L n Q := by
  refine Tri.block (Tri.mono h fun e F H n' ⟨fr', L', hF, hH, hq⟩ => ?_)
  cases e with
  | exit id' =>
    simp only [blockL, blockQ] at hq ⊢
    split
    · rename_i e; rw [if_pos e] at hq; exact ⟨fr', L', hF, hH, hq⟩
    · rename_i e; rw [if_neg e] at hq; exact ⟨fr', L', hF, hH, hq⟩
  | _ => exact ⟨fr', L', hF, hH, hq⟩
theorem TL.cond {c : Operand} {t : Bool} (hc : ev gid (fget fr) c = .val (.bool t)) (h1 : t = true → TL P gid N kk x fr L n Q) (h2 : t = false → TL P gid N kk y fr L n Q) : TL P gid N kk (.cond c x y) fr L n Q :=
  Tri.cond hc h1 h2
theorem TL.condT {c : Operand} (hc : ev gid (fget fr) c = .val (.bool true)) (h1 : TL P gid N kk x fr L n Q) : TL P gid N kk (.cond c x y) fr L n Q :=
  Tri.cond hc (fun _ => h1) (fun h => by cases h)
theorem TL.condF {c : Operand} (hc : ev gid (fget fr) c = .val (.bool false)) (h1 : TL P gid N kk y fr L n Q) : TL P gid N kk (.cond c x y) fr L n Q :=
  Tri.cond hc (fun h => by cases h) (fun _ => h1)
theorem TL.mono {Q' : Exit → Fr → HL → Nat → Prop} (h : TL P gid N kk c fr L n Q) (hq : ∀ e fr L n, Q e fr L n → Q' e fr L n) : TL P gid N kk c fr L n Q' :=
  Tri.mono h fun e F H n' ⟨fr', L', hF, hH, hh⟩ => ⟨fr', L', hF, hH, hq _ _ _ _ hh⟩

/-- Slots that are told on; all others are let go. -/
def keep (ks : List Nat) (fr : Fr) : Fr := ks.map fun s => (s, fget fr s)
theorem fget_keep (ks : List Nat) (fr : Fr) (d : Nat) : fget (keep ks fr) d = fget fr d ∨ fget (keep ks fr) d = .any := by
  induction ks with
  | nil => exact .inr rfl
  | cons s ks ih =>
    simp only [keep, List.map_cons, fget]
    split
    · rename_i e; exact .inl (by rw [e])
    · exact ih
theorem TL.keep (ks : List Nat) (h : TL P gid N kk c (keep ks fr) L n Q) : TL P gid N kk c fr L n Q :=
  fun E ρ a w hk hs => h E ρ a w hk ⟨hs.w, hs.f.weak (fget_keep ks fr), hs.fresh, hs.kn⟩

theorem TL.region {id : Nat} {l : List Oper} (hN : (l.all fun o => match o.dst with | some d => decide (d < N) | none => true) = true) (h : RT P gid N l.toArray l fr L n fun _ fr' L' n' => Q .normal fr' L' n') : TL P gid N kk (.region id l.toArray false) fr L n Q := by
  obtain ⟨recs, fr', L', n', hrun, hq⟩ := h
  refine Tri.region (fun j d hj => ?_) (by simpa using hrun) ⟨fr', L', rfl, rfl, hq⟩
  cases ho : l[j]? with
  | none => simp [ho] at hj
  | some o =>
    have hm := List.all_eq_true.1 hN o (List.mem_of_getElem? ho)
    simp [ho] at hj
    rw [hj] at hm
    simpa using hm

/-- A region, and what stands behind it. -/
theorem TL.rseq {id : Nat} {l : List Oper} (ks : List Nat) (hN : (l.all fun o => match o.dst with | some d => decide (d < N) | none => true) = true)
    (h : RT P gid N l.toArray l fr L n fun _ fr' L' n' => TL P gid N kk y (Abs.keep ks fr') L' n' Q) : TL P gid N kk (.seq (.region id l.toArray false) y) fr L n Q :=
  TL.seq (TL.region hN (by
    obtain ⟨recs, fr', L', n', hrun, hq⟩ := h
    exact ⟨recs, fr', L', n', hrun, TL.keep ks hq⟩))

/-! ### Another reading of a state: numbers of blocks told anew, slots and blocks let go -/
inductive Src where
  | old (i : Nat)
  | view (i o : Nat)
  | nil
  deriving DecidableEq

mutual
/-- 'c2' tells of the new numbers what 'c' told of the old ones. -/
def Ren (π : Nat → Option Src) : V → V → Prop
  | .any, _ => True
  | .val x, c => c = .val x ∨ False
  | .ptr b o, c => (∃ i, π b = some (.old i) ∧ c = .ptr i o) ∨ (∃ i p, π b = some (.view i p) ∧ c = .ptr i (p + o))
  | .sl b o len, c => (∃ i, π b = some (.old i) ∧ c = .sl i o len) ∨ (∃ i p, π b = some (.view i p) ∧ c = .sl i (p + o) len) ∨ (π b = some .nil ∧ o = 0 ∧ len = 0 ∧ c = .val (.slice none 0 0))
  | .mp b, c => ∃ i, π b = some (.old i) ∧ c = .mp i
  | .fn f cs, c => ∃ cs', c = .fn f cs' ∧ RenL π cs cs'
  | .agg cs, c => ∃ cs', c = .agg cs' ∧ RenL π cs cs'
  | .tup cs, c => ∃ cs', c = .tup cs' ∧ RenL π cs cs'
def RenL (π : Nat → Option Src) : List V → List V → Prop
  | [], [] => True
  | c :: cs, d :: ds => Ren π c d ∧ RenL π cs ds
  | _, _ => False
end

def nilLoc : Loc := ⟨none, some 0⟩
def renEnv (π : Nat → Option Src) (ρ : Env) : Env := fun i => match π i with
  | some (.old j) => ρ j
  | some (.view j o) => (ρ j).map fun l => ⟨l.addr.map (·.add o), none⟩
  | some .nil => some nilLoc
  | none => none

mutual
theorem Ren.vr {π : Nat → Option Src} {ρ : Env} : ∀ (c2 c : V) (v : Value), Ren π c2 c → Vr ρ c v → Vr (renEnv π ρ) c2 v
  | .any, _, _, _, _ => by simp only [Vr]
  | .val x, c, v, h, hv => by
    simp only [Ren, or_false] at h
    subst h
    simpa only [Vr] using hv
  | .ptr b o, c, v, h, hv => by
    simp only [Ren] at h
    simp only [Vr] at ⊢
    rcases h with ⟨i, hi, rfl⟩ | ⟨i, p, hi, rfl⟩
    · simp only [Vr] at hv
      obtain ⟨l, a, h1, h2⟩ := hv
      exact ⟨l, a, by simp [renEnv, hi, h1], h2⟩
    · simp only [Vr] at hv
      obtain ⟨l, a, h1, h2, h3⟩ := hv
      exact ⟨⟨some (a.add p), none⟩, a.add p, by simp [renEnv, hi, h1, h2], rfl, by rw [addr_add_add]; exact h3⟩
  | .sl b o len, c, v, h, hv => by
    simp only [Ren] at h
    rcases h with ⟨i, hi, rfl⟩ | ⟨i, p, hi, rfl⟩ | ⟨hi, rfl, rfl, rfl⟩
    · simp only [Vr] at hv ⊢
      obtain ⟨l, A, cc, h1, h2⟩ := hv
      exact ⟨l, A, cc, by simp [renEnv, hi, h1], h2⟩
    · simp only [Vr] at hv ⊢
      obtain ⟨l, A, cc, h1, h2, h3, _, h5⟩ := hv
      refine ⟨⟨l.addr.map (·.add p), none⟩, A, cc, by simp [renEnv, hi, h1], h2, h3, fun _ k hk => by simp at hk, fun hp => ?_⟩
      obtain ⟨a, ha, hA⟩ := h5 hp
      exact ⟨a.add p, by simp [ha], by rw [addr_add_add]; exact hA⟩
    · simp only [Vr] at hv ⊢
      exact ⟨nilLoc, none, 0, by simp [renEnv, hi], hv, Nat.le_refl _, fun _ k hk => ⟨rfl, by cases hk; rfl⟩, fun h => absurd h (by omega)⟩
  | .mp b, c, v, h, hv => by
    simp only [Ren] at h
    obtain ⟨i, hi, rfl⟩ := h
    simp only [Vr] at hv ⊢
    obtain ⟨l, a, h1, h2⟩ := hv
    exact ⟨l, a, by simp [renEnv, hi, h1], h2⟩
  | .fn f cs, c, v, h, hv => by
    simp only [Ren] at h
    obtain ⟨cs', rfl, hc⟩ := h
    simp only [Vr] at hv ⊢
    obtain ⟨vs, h1, h2⟩ := hv
    exact ⟨vs, h1, RenL.vr cs cs' vs hc h2⟩
  | .agg cs, c, v, h, hv => by
    simp only [Ren] at h
    obtain ⟨cs', rfl, hc⟩ := h
    simp only [Vr] at hv ⊢
    obtain ⟨vs, h1, h2⟩ := hv
    exact ⟨vs, h1, RenL.vr cs cs' vs hc h2⟩
  | .tup cs, c, v, h, hv => by
    simp only [Ren] at h
    obtain ⟨cs', rfl, hc⟩ := h
    simp only [Vr] at hv ⊢
    obtain ⟨vs, h1, h2⟩ := hv
    exact ⟨vs, h1, RenL.vr cs cs' vs hc h2⟩
theorem RenL.vr {π : Nat → Option Src} {ρ : Env} : ∀ (cs ds : List V) (vs : List Value), RenL π cs ds → VrL ρ ds vs → VrL (renEnv π ρ) cs vs
  | [], [], [], _, _ => by simp only [VrL]
  | c :: cs, d :: ds, v :: vs, h, hv => by
    simp only [RenL] at h
    simp only [VrL] at hv ⊢
    exact ⟨Ren.vr c d v h.1 hv.1, RenL.vr cs ds vs h.2 hv.2⟩
  | [], [], _ :: _, _, hv => by simp only [VrL] at hv
  | [], _ :: _, _, h, _ => by simp only [RenL] at h
  | _ :: _, [], _, h, _ => by simp only [RenL] at h
  | _ :: _, _ :: _, [], _, hv => by simp only [VrL] at hv
end

theorem RenL.length {π : Nat → Option Src} : ∀ {cs ds : List V}, RenL π cs ds → cs.length = ds.length
  | [], [], _ => rfl
  | c :: cs, d :: ds, h => by simp only [RenL] at h; simp [RenL.length h.2]
  | [], _ :: _, h => by simp only [RenL] at h
  | _ :: _, [], h => by simp only [RenL] at h

theorem RenL_vals (π : Nat → Option Src) : ∀ (l : List Value), RenL π (vals l) (vals l)
  | [] => by simp [RenL]
  | x :: l => by simp only [vals, List.map_cons, RenL, Ren]; exact ⟨.inl trivial, RenL_vals π l⟩

def RenB (π : Nat → Option Src) : Blk → Blk → Prop
  | .ro l, k => k = .ro l
  | .own e cs, k => ∃ cs', k = .own e cs' ∧ RenL π cs cs'
  | .mp es, k => k = .mp es
  | .it s p, k => k = .it s p

/-- One block of the new heap. -/
def RenE (π : Nat → Option Src) (L : HL) (b : Nat) (k : Blk) : Prop :=
  (∃ i k', π b = some (.old i) ∧ lk L i = some k' ∧ RenB π k k') ∨ (∃ i o l k', π b = some (.view i o) ∧ lk L i = some k' ∧ k = .ro l ∧ o + l.length ≤ k'.cellsV.length ∧ k'.sub o l.length = vals l) ∨ (π b = some .nil ∧ ((∃ e, k = .own e []) ∨ k = .ro []))
/-- The new heap's blocks: each the old one of its number, or an empty row for nil. -/
def RenH (π : Nat → Option Src) (L : HL) : HL → Prop
  | [] => True
  | (b, k) :: r => RenE π L b k ∧ RenH π L r

def RenF (π : Nat → Option Src) (fr : Fr) : Fr → Prop
  | [] => True
  | (s, v) :: r => Ren π v (fget fr s) ∧ RenF π fr r

theorem RenH.spec {π : Nat → Option Src} {L : HL} : ∀ {L2 : HL}, RenH π L L2 → ∀ {b k}, lk L2 b = some k → RenE π L b k
  | [], _, b, k, h => by simp [lk] at h
  | (c, k') :: r, hr, b, k, h => by
    simp only [RenH] at hr
    simp only [lk] at h
    split at h
    · rename_i e; cases h; rw [e]; exact hr.1
    · exact RenH.spec hr.2 h

theorem RenF.spec {π : Nat → Option Src} {fr : Fr} : ∀ {fr2 : Fr}, RenF π fr fr2 → ∀ d, Ren π (fget fr2 d) (fget fr d)
  | [], _, d => by simp [fget, Ren]
  | (s, v) :: r, hr, d => by
    simp only [RenF] at hr
    simp only [fget]
    split
    · rename_i e; rw [e]; exact hr.1
    · exact RenF.spec hr.2 d

theorem RenB.ok {π : Nat → Option Src} {ρ : Env} {w : World} {b i : Nat} {k k' : Blk} (hb : π b = some (.old i)) (h : RenB π k k') (hk : BlkOk P ρ w i k') : BlkOk P (renEnv π ρ) w b k := by
  have he : renEnv π ρ b = ρ i := by simp [renEnv, hb]
  cases k with
  | ro l => simp only [RenB] at h; subst h; simpa only [BlkOk, he] using hk
  | mp es => simp only [RenB] at h; subst h; simpa only [BlkOk, he] using hk
  | it s p => simp only [RenB] at h; subst h; simpa only [BlkOk, he] using hk
  | own e cs =>
    simp only [RenB] at h
    obtain ⟨cs', rfl, hr⟩ := h
    obtain ⟨lc, h1, h2⟩ := hk
    refine ⟨lc, by rw [he]; exact h1, ?_⟩
    have hl := hr.length
    rcases h2 with ⟨h3, h4, rfl⟩ | ⟨g, cur, h3, h4, h5, h7, h8⟩
    · exact .inl ⟨h3, h4, List.eq_nil_of_length_eq_zero (by simpa using hl)⟩
    · exact .inr ⟨g, cur, h3, h4, h5, by omega, by rw [hl]; exact RenL.vr _ _ _ hr h8⟩

/-- π is one-to-one where it leads to old blocks. -/
def Inj (π : Nat → Option Src) (L2 : HL) : Prop := (∀ b b' k k' i, lk L2 b = some k → lk L2 b' = some k' → π b = some (.old i) → π b' = some (.old i) → k.mine = true → b = b') ∧
  ∀ b b' k k' i o, lk L2 b = some k → lk L2 b' = some k' → k.mine = true → π b = some (.old i) → π b' = some (.view i o) → False

theorem add_block (a : Addr) (o : Nat) : (a.add o).block = a.block := by unfold Addr.add; split <;> rfl

theorem view_ok {π : Nat → Option Src} {ρ : Env} {w : World} {b i o : Nat} {l : List Value} {k' : Blk} (hb : π b = some (.view i o)) (hle : o + l.length ≤ k'.cellsV.length) (hs : k'.sub o l.length = vals l) (hk : BlkOk P ρ w i k') :
    BlkOk P (renEnv π ρ) w b (.ro l) := by
  obtain ⟨vs, h1, h2, h3⟩ := read_row hk o l.length hle
  rw [hs] at h1
  have e := VrL_vals.1 h1
  subst e
  by_cases h0 : 0 < vs.length
  · obtain ⟨lc, a, h4, h5, h6⟩ := h3 h0
    exact ⟨⟨some (a.add o), none⟩, by simp [renEnv, hb, h4, h5], .inr ⟨_, rfl, h6⟩⟩
  · have : vs = [] := List.eq_nil_of_length_eq_zero (by omega)
    subst this
    have hd : ∃ lc, ρ i = some lc := by
      cases k' with
      | ro l => exact ⟨_, hk.choose_spec.1⟩
      | own e c => exact ⟨_, hk.choose_spec.1⟩
      | mp es => obtain ⟨lc, g, arr, clock, h, _⟩ := hk; exact ⟨lc, h⟩
      | it s p => obtain ⟨lc, g, h, _⟩ := hk; exact ⟨lc, h⟩
    obtain ⟨lc, hlc⟩ := hd
    exact ⟨⟨lc.addr.map (·.add o), none⟩, by simp [renEnv, hb, hlc], .inl rfl⟩

theorem at_view {π : Nat → Option Src} {ρ : Env} {b i o : Nat} (hb : π b = some (.view i o)) : at? (renEnv π ρ) b = at? ρ i := by
  simp only [at?, renEnv, hb]
  cases ρ i with
  | none => rfl
  | some l => cases l with | mk ad cap => cases ad <;> simp [add_block]

/-- The blocks told anew stand as they stood. -/
theorem Own.ren {ρ : Env} {L L2 : HL} {w : World} (π : Nat → Option Src) (h : Own P ρ (lk L) w) (hh : RenH π L L2) (hi : Inj π L2) : Own P (renEnv π ρ) (lk L2) w := by
  have hat : ∀ b i, π b = some (.old i) → at? (renEnv π ρ) b = at? ρ i := fun b i hb => by simp [at?, renEnv, hb]
  have hatn : ∀ b, π b = some .nil → at? (renEnv π ρ) b = none := fun b hb => by simp [at?, renEnv, hb, nilLoc]
  have hmine : ∀ {k k' : Blk}, RenB π k k' → k.mine = k'.mine ∧ k.solid = k'.solid := by
    intro k k' hr
    cases k <;> simp only [RenB] at hr
    · subst hr; exact ⟨rfl, rfl⟩
    · obtain ⟨cs', rfl, _⟩ := hr; exact ⟨rfl, rfl⟩
    · subst hr; exact ⟨rfl, rfl⟩
    · subst hr; exact ⟨rfl, rfl⟩
  refine ⟨?_, ?_⟩
  · intro b k hb
    rcases hh.spec hb with ⟨i, k', hπ, hl, hr⟩ | ⟨i, o, l, k', hπ, hl, rfl, hle, hs⟩ | ⟨hπ, ⟨e, rfl⟩ | rfl⟩
    · exact hr.ok hπ (h.ok i k' hl)
    · exact view_ok hπ hle hs (h.ok i k' hl)
    · exact ⟨nilLoc, by simp [renEnv, hπ], .inl ⟨rfl, rfl, rfl⟩⟩
    · exact ⟨nilLoc, by simp [renEnv, hπ], .inl rfl⟩
  · intro b b' k k' g hne hb hb' hm hs hg hg'
    rcases hh.spec hb with ⟨i, k1, hπ, hl, hr⟩ | ⟨i, o, l, k1, hπ, hl, rfl, hle, hsu⟩ | ⟨hπ, ⟨e, rfl⟩ | rfl⟩
    · rcases hh.spec hb' with ⟨i', k1', hπ', hl', hr'⟩ | ⟨i', o', l', k1', hπ', hl', rfl, hle', hs'⟩ | ⟨hπ', _⟩
      · have hii : i ≠ i' := fun e => hne (hi.1 b b' k k' i hb hb' hπ (by rw [e]; exact hπ') hm)
        rw [hat b i hπ] at hg
        rw [hat b' i' hπ'] at hg'
        exact h.sep i i' k1 k1' g hii hl hl' ((hmine hr).1 ▸ hm) ((hmine hr').2 ▸ hs) hg hg'
      · have hii : i ≠ i' := fun e => hi.2 b b' k _ i o' hb hb' hm hπ (by rw [e]; exact hπ')
        rw [hat b i hπ] at hg
        rw [at_view hπ'] at hg'
        refine h.sep i i' k1 k1' g hii hl hl' ((hmine hr).1 ▸ hm) ?_ hg hg'
        cases k1' with
        | ro m =>
          cases m with
          | nil => simp [Blk.cellsV] at hle'; simp [hle'.2, Blk.solid] at hs
          | cons x m => rfl
        | _ => rfl
      · rw [hatn b' hπ'] at hg'; cases hg'
    · cases hm
    · rw [hatn b hπ] at hg; cases hg
    · cases hm

theorem St.ren {E : Ent} {ρ : Env} {fr fr2 : Fr} {L L2 : HL} {n n2 : Nat} {a : Act} {w : World} (π : Nat → Option Src) (h : St P gid N E ρ (fget fr) (lk L) n a w)
    (hk : ∀ i, i < E.k → π i = some (.old i)) (hn : ∀ i, n2 ≤ i → π i = none) (hkn : E.k ≤ n2) (hf : RenF π fr fr2) (hh : RenH π L L2) (hi : Inj π L2) :
    St P gid N E (renEnv π ρ) (fget fr2) (lk L2) n2 a w := by
  have hat : ∀ b i, π b = some (.old i) → at? (renEnv π ρ) b = at? ρ i := fun b i hb => by simp [at?, renEnv, hb]
  have hatn : ∀ b, π b = some .nil → at? (renEnv π ρ) b = none := fun b hb => by simp [at?, renEnv, hb, nilLoc]
  have hmine : ∀ {k k' : Blk}, RenB π k k' → k.mine = k'.mine := by
    intro k k' hr
    cases k <;> simp only [RenB] at hr
    · subst hr; rfl
    · obtain ⟨cs', rfl, _⟩ := hr; rfl
    · subst hr; rfl
    · subst hr; rfl
  refine ⟨⟨h.w.own.ren π hh hi, ?_, h.w.kept, ?_, ?_⟩, ⟨fun d => (hf.spec d).vr _ _ _ (h.f.slots d), h.f.size, h.f.defers⟩, ?_, hkn⟩
  · intro i hi'
    rw [← h.w.ext i hi']
    simp [renEnv, hk i hi']
  · intro b k g hb hm hg
    rcases hh.spec hb with ⟨i, k', hπ, hl, hr⟩ | ⟨i, o, l, k1, hπ, hl, rfl, hle, hsu⟩ | ⟨hπ, _⟩
    · rw [hat b i hπ] at hg
      exact h.w.mine i k' g hl (hmine hr ▸ hm) hg
    · cases hm
    · rw [hatn b hπ] at hg; cases hg
  · intro g id hid
    obtain ⟨h1, c, hc⟩ := h.w.glob g id hid
    exact ⟨h1, c, by simp [renEnv, hk id h1, hc]⟩
  · intro i hi'
    simp [renEnv, hn i hi']
end
end Go.Abs
