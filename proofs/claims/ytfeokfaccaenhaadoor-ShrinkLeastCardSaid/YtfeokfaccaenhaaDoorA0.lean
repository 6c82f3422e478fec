/- The abstract logic, part 0: abstract values, blocks, how they stand to a world of the model; what a change of some blocks leaves as it was. -/
import Derived.Orders
import Derived.Tactics
import Derived.WalkKit
import Derived.Laws.AppendOwn
import Derived.Laws.OwnMore
import Derived.Below
set_option linter.unusedVariables false
set_option linter.unusedSimpArgs false
namespace Go.Abs

/-- An abstract value: 'val': exactly this one; places by the numbers of abstract blocks. -/
inductive V where
  | val (x : Value)
  | ptr (b o : Nat)
  | sl (b o len : Nat)
  | mp (b : Nat)
  | fn (f : FuncId) (caps : List V)
  | agg (cs : List V)
  | tup (vs : List V)
  | any
  deriving Inhabited

/-- An abstract block: 'ro': cells that are only read; 'own': a row or a variable of one's own; a map; a string's iterator. -/
inductive Blk where
  | ro (l : List Value)
  | own (e : TypeId) (cs : List V)
  | mp (es : List (Value × Value))
  | it (s : ByteArray) (pos : Nat)
  deriving Inhabited

def Blk.mine : Blk → Bool
  | .ro _ => false
  | _ => true

/-- Has a block cells to lose? -/
def Blk.solid : Blk → Bool
  | .ro l => !l.isEmpty
  | _ => true

structure Loc where
  addr : Option Addr
  cap : Option Nat

abbrev Env := Nat → Option Loc
abbrev Hp := Nat → Option Blk

mutual
def Vr (ρ : Env) : V → Value → Prop
  | .val x, v => v = x
  | .ptr b o, v => ∃ l a, ρ b = some l ∧ l.addr = some a ∧ v = .pointer (some (a.add o))
  | .sl b o len, v => ∃ l A c, ρ b = some l ∧ v = .slice A len c ∧ len ≤ c ∧ (o = 0 → ∀ k, l.cap = some k → A = l.addr ∧ c = k) ∧ (0 < len → ∃ a, l.addr = some a ∧ A = some (a.add o))
  | .mp b, v => ∃ l a, ρ b = some l ∧ l.addr = some a ∧ v = .map (some a.block)
  | .fn f cs, v => ∃ vs : List Value, v = .func (.func f) #[] vs.toArray ∧ VrL ρ cs vs
  | .agg cs, v => ∃ vs : List Value, v = .agg vs.toArray ∧ VrL ρ cs vs
  | .tup cs, v => ∃ vs : List Value, v = .tuple vs.toArray ∧ VrL ρ cs vs
  | .any, _ => True
def VrL (ρ : Env) : List V → List Value → Prop
  | [], [] => True
  | c :: cs, v :: vs => Vr ρ c v ∧ VrL ρ cs vs
  | _, _ => False
end

def Ext (ρ ρ' : Env) : Prop := ∀ b l, ρ b = some l → ρ' b = some l
theorem Ext.refl (ρ : Env) : Ext ρ ρ := fun _ _ h => h
theorem Ext.trans {a b c : Env} (h : Ext a b) (k : Ext b c) : Ext a c := fun _ _ e => k _ _ (h _ _ e)

mutual
theorem Vr.ext {ρ ρ' : Env} (h : Ext ρ ρ') : ∀ (c : V) (v : Value), Vr ρ c v → Vr ρ' c v
  | .val x, v, hv => by simpa only [Vr] using hv
  | .ptr b o, v, hv => by
    simp only [Vr] at hv ⊢
    obtain ⟨l, a, h1, h2, h3⟩ := hv
    exact ⟨l, a, h _ _ h1, h2, h3⟩
  | .sl b o len, v, hv => by
    simp only [Vr] at hv ⊢
    obtain ⟨l, A, c, h1, h2⟩ := hv
    exact ⟨l, A, c, h _ _ h1, h2⟩
  | .mp b, v, hv => by
    simp only [Vr] at hv ⊢
    obtain ⟨l, a, h1, h2, h3⟩ := hv
    exact ⟨l, a, h _ _ h1, h2, h3⟩
  | .fn f cs, v, hv => by
    simp only [Vr] at hv ⊢
    obtain ⟨vs, h1, h2⟩ := hv
    exact ⟨vs, h1, VrL.ext h cs vs h2⟩
  | .agg cs, v, hv => by
    simp only [Vr] at hv ⊢
    obtain ⟨vs, h1, h2⟩ := hv
    exact ⟨vs, h1, VrL.ext h cs vs h2⟩
  | .tup cs, v, hv => by
    simp only [Vr] at hv ⊢
    obtain ⟨vs, h1, h2⟩ := hv
    exact ⟨vs, h1, VrL.ext h cs vs h2⟩
  | .any, v, hv => by simp only [Vr]
theorem VrL.ext {ρ ρ' : Env} (h : Ext ρ ρ') : ∀ (cs : List V) (vs : List Value), VrL ρ cs vs → VrL ρ' cs vs
  | [], [], _ => by simp only [VrL]
  | c :: cs, v :: vs, hv => by
    simp only [VrL] at hv ⊢
    exact ⟨Vr.ext h c v hv.1, VrL.ext h cs vs hv.2⟩
  | [], _ :: _, hv => by simp only [VrL] at hv
  | _ :: _, [], hv => by simp only [VrL] at hv
end

/-! ### Lists of values -/
theorem VrL.length {ρ : Env} : ∀ {cs : List V} {vs : List Value}, VrL ρ cs vs → cs.length = vs.length
  | [], [], _ => rfl
  | c :: cs, v :: vs, h => by simp only [VrL] at h; simp [VrL.length h.2]
  | [], _ :: _, h => by simp only [VrL] at h
  | _ :: _, [], h => by simp only [VrL] at h

theorem VrL.get {ρ : Env} : ∀ {cs : List V} {vs : List Value}, VrL ρ cs vs → ∀ {i : Nat} {c : V}, cs[i]? = some c → ∃ v, vs[i]? = some v ∧ Vr ρ c v
  | [], [], _, i, c, hc => by simp at hc
  | c :: cs, v :: vs, h, 0, c', hc => by
    simp only [VrL] at h
    simp at hc
    subst hc
    exact ⟨v, rfl, h.1⟩
  | c :: cs, v :: vs, h, i + 1, c', hc => by
    simp only [VrL] at h
    simp at hc
    obtain ⟨u, h1, h2⟩ := VrL.get h.2 hc
    exact ⟨u, by simpa using h1, h2⟩
  | [], _ :: _, h, _, _, _ => by simp only [VrL] at h
  | _ :: _, [], h, _, _, _ => by simp only [VrL] at h

theorem VrL.of_get {ρ : Env} : ∀ {cs : List V} {vs : List Value}, cs.length = vs.length → (∀ (i : Nat) (c : V) (v : Value), cs[i]? = some c → vs[i]? = some v → Vr ρ c v) → VrL ρ cs vs
  | [], [], _, _ => by simp only [VrL]
  | c :: cs, v :: vs, hl, h => by
    simp only [VrL]
    exact ⟨h 0 c v rfl rfl, VrL.of_get (by simpa using hl) fun i c' v' h1 h2 => h (i + 1) c' v' (by simpa using h1) (by simpa using h2)⟩
  | [], _ :: _, hl, _ => by simp at hl
  | _ :: _, [], hl, _ => by simp at hl

theorem VrL.append {ρ : Env} : ∀ {cs cs' : List V} {vs vs' : List Value}, VrL ρ cs vs → VrL ρ cs' vs' → VrL ρ (cs ++ cs') (vs ++ vs')
  | [], cs', [], vs', _, h' => by simpa using h'
  | c :: cs, cs', v :: vs, vs', h, h' => by
    simp only [VrL] at h
    simp only [List.cons_append, VrL]
    exact ⟨h.1, VrL.append h.2 h'⟩
  | [], _, _ :: _, _, h, _ => by simp only [VrL] at h
  | _ :: _, _, [], _, h, _ => by simp only [VrL] at h

theorem VrL.take {ρ : Env} : ∀ (n : Nat) {cs : List V} {vs : List Value}, VrL ρ cs vs → VrL ρ (cs.take n) (vs.take n)
  | 0, _, _, _ => by simp [VrL]
  | n + 1, [], [], _ => by simp [VrL]
  | n + 1, c :: cs, v :: vs, h => by
    simp only [VrL] at h
    simp only [List.take_succ_cons, VrL]
    exact ⟨h.1, VrL.take n h.2⟩
  | n + 1, [], _ :: _, h => by simp only [VrL] at h
  | n + 1, _ :: _, [], h => by simp only [VrL] at h

theorem VrL.drop {ρ : Env} : ∀ (n : Nat) {cs : List V} {vs : List Value}, VrL ρ cs vs → VrL ρ (cs.drop n) (vs.drop n)
  | 0, _, _, h => by simpa using h
  | n + 1, [], [], _ => by simp [VrL]
  | n + 1, c :: cs, v :: vs, h => by
    simp only [VrL] at h
    simpa using VrL.drop n h.2
  | n + 1, [], _ :: _, h => by simp only [VrL] at h
  | n + 1, _ :: _, [], h => by simp only [VrL] at h

/-- Values that are told exactly. -/
def vals (l : List Value) : List V := l.map V.val
@[simp] theorem vals_nil : vals [] = [] := rfl
@[simp] theorem vals_length (l : List Value) : (vals l).length = l.length := by simp [vals]
theorem vals_append (l m : List Value) : vals (l ++ m) = vals l ++ vals m := by simp [vals]
theorem VrL_vals {ρ : Env} : ∀ {l vs : List Value}, VrL ρ (vals l) vs ↔ vs = l
  | [], [] => by simp [vals, VrL]
  | [], _ :: _ => by simp [vals, VrL]
  | _ :: _, [] => by simp [vals, VrL]
  | x :: l, v :: vs => by
    have ih := @VrL_vals ρ l vs
    simp only [vals] at ih
    simp only [vals, List.map_cons, VrL, ih, Vr, List.cons.injEq]

/-- The cells of a value. -/
def V.cells : V → List V
  | .val x => vals x.cells.toList
  | .agg cs => cs
  | x => [x]

/-! ### Blocks -/
def BlkOk (P : Program) (ρ : Env) (w : World) (b : Nat) : Blk → Prop
  | .ro l => ∃ lc, ρ b = some lc ∧ (l = [] ∨ ∃ a, lc.addr = some a ∧ ∀ i v, l[i]? = some v → w.cell? (a.add i) = some v)
  | .own e cs => ∃ lc, ρ b = some lc ∧ ((lc.addr = none ∧ lc.cap = some 0 ∧ cs = []) ∨
      ∃ (g : Nat) (cur : Array Value), lc.addr = some ⟨g, 0, none⟩ ∧ w.heap[g]? = some (.cells cur e (0, 0)) ∧ (∃ cap, lc.cap = some cap ∧ cur.size = cap * P.cellsOf e ∧ cap ≤ maxLen) ∧ cs.length ≤ cur.size ∧ VrL ρ cs (cur.toList.take cs.length))
  | .mp es => ∃ (lc : Loc) (g : Nat) (arr : Array MapEntry) (clock : Nat), ρ b = some lc ∧ lc.addr = some ⟨g, 0, none⟩ ∧ w.heap[g]? = some (.map arr clock) ∧ arr.toList.map (fun e => (e.key, e.val)) = es
  | .it s pos => ∃ (lc : Loc) (g : Nat), ρ b = some lc ∧ lc.addr = some ⟨g, 0, none⟩ ∧ w.heap[g]? = some (.stringIter s pos)

/-- The real block of an abstract one. -/
def at? (ρ : Env) (b : Nat) : Option Nat := (ρ b).bind fun l => l.addr.map (·.block)

theorem at?_ext {ρ ρ' : Env} (h : Ext ρ ρ') {b g : Nat} (hb : at? ρ b = some g) : at? ρ' b = some g := by
  unfold at? at *
  cases hr : ρ b with
  | none => simp [hr] at hb
  | some l => rw [h _ _ hr]; simpa [hr] using hb

structure Own (P : Program) (ρ : Env) (H : Hp) (w : World) : Prop where
  ok : ∀ b k, H b = some k → BlkOk P ρ w b k
  sep : ∀ b b' k k' g, b ≠ b' → H b = some k → H b' = some k' → k.mine = true → k'.solid = true → at? ρ b = some g → at? ρ b' ≠ some g

/-- A solid block that has a place stands in the heap. -/
theorem BlkOk.lt {P : Program} {ρ : Env} {w : World} {b : Nat} {k : Blk} (h : BlkOk P ρ w b k) (hs : k.solid = true) {g : Nat} (hg : at? ρ b = some g) : g < w.heap.size := by
  cases k with
  | ro l =>
    obtain ⟨lc, h1, h2⟩ := h
    rcases h2 with rfl | ⟨a, ha, hc⟩
    · simp [Blk.solid] at hs
    · cases l with
      | nil => simp [Blk.solid] at hs
      | cons v l =>
        have h0 := hc 0 v rfl
        have hb : a.block = g := by simpa [at?, h1, ha] using hg
        have := World.block_lt_of_cell? w (a.add 0) h0
        simpa [Addr.add, hb] using this
  | own e cs =>
    obtain ⟨lc, h1, h2⟩ := h
    rcases h2 with ⟨h3, _⟩ | ⟨g', cur, h3, h4, _⟩
    · simp [at?, h1, h3] at hg
    · have hb : g' = g := by simpa [at?, h1, h3] using hg
      subst hb
      exact (Array.getElem?_eq_some_iff.1 h4).1
  | mp es =>
    obtain ⟨lc, g', arr, clock, h1, h3, h4, _⟩ := h
    have hb : g' = g := by simpa [at?, h1, h3] using hg
    subst hb
    exact (Array.getElem?_eq_some_iff.1 h4).1
  | it s pos =>
    obtain ⟨lc, g', h1, h3, h4⟩ := h
    have hb : g' = g := by simpa [at?, h1, h3] using hg
    subst hb
    exact (Array.getElem?_eq_some_iff.1 h4).1

/-- A block reads as it did where its real block is as it was. -/
theorem BlkOk.keep {P : Program} {ρ ρ' : Env} {w w' : World} {b : Nat} {k : Blk} (h : BlkOk P ρ w b k) (he : Ext ρ ρ')
    (hk : ∀ g, at? ρ b = some g → k.solid = true → w'.heap[g]? = w.heap[g]?) : BlkOk P ρ' w' b k := by
  cases k with
  | ro l =>
    obtain ⟨lc, h1, h2⟩ := h
    refine ⟨lc, he _ _ h1, ?_⟩
    rcases h2 with rfl | ⟨a, ha, hc⟩
    · exact .inl rfl
    · cases l with
      | nil => exact .inl rfl
      | cons v0 l =>
        refine .inr ⟨a, ha, fun i v hv => ?_⟩
        have hg := hk a.block (by simp [at?, h1, ha]) rfl
        rw [World.cell?_of_block (w := w)]
        · exact hc i v hv
        · have : (a.add i).block = a.block := by unfold Addr.add; split <;> rfl
          rw [this]; exact hg
  | own e cs =>
    obtain ⟨lc, h1, h2⟩ := h
    refine ⟨lc, he _ _ h1, ?_⟩
    rcases h2 with h3 | ⟨g, cur, h3, h4, h5, h7, h8⟩
    · exact .inl h3
    · have hg := hk g (by simp [at?, h1, h3]) rfl
      exact .inr ⟨g, cur, h3, hg.trans h4, h5, h7, VrL.ext he _ _ h8⟩
  | mp es =>
    obtain ⟨lc, g, arr, clock, h1, h3, h4, h5⟩ := h
    have hg := hk g (by simp [at?, h1, h3]) rfl
    exact ⟨lc, g, arr, clock, he _ _ h1, h3, hg.trans h4, h5⟩
  | it s pos =>
    obtain ⟨lc, g, h1, h3, h4⟩ := h
    have hg := hk g (by simp [at?, h1, h3]) rfl
    exact ⟨lc, g, he _ _ h1, h3, hg.trans h4⟩

/-! ### Heaps as lists -/
abbrev HL := List (Nat × Blk)
def lk : HL → Hp
  | [], _ => none
  | (b, k) :: l, i => if i = b then some k else lk l i

/-- What stands behind a change: 'cs' goes, 'pr' comes. -/
def upd (H : Hp) (cs pr : HL) : Hp := fun i => match lk pr i with
  | some k => some k
  | none => if (lk cs i).isSome then none else H i

theorem upd_nil (H : Hp) : upd H [] [] = H := by funext i; simp [upd, lk]

/-- The entry of a call: its own numbers below k; the places, blocks and world then. -/
structure Ent where
  k : Nat
  env : Env
  hp : Hp
  w : World

/-- Owned at the entry. -/
def Ent.owns (E : Ent) (g : Nat) : Prop := ∃ b k, E.hp b = some k ∧ k.mine = true ∧ at? E.env b = some g

structure Ent.kept (E : Ent) (w : World) : Prop where
  os : w.os = E.w.os
  tape : w.tape = E.w.tape
  output : w.output = E.w.output
  size : E.w.heap.size ≤ w.heap.size
  block : ∀ g, g < E.w.heap.size → ¬ E.owns g → w.heap[g]? = E.w.heap[g]?

structure WSt (P : Program) (gid : Nat → Option Nat) (E : Ent) (ρ : Env) (H : Hp) (w : World) : Prop where
  own : Own P ρ H w
  ext : ∀ i, i < E.k → ρ i = E.env i
  kept : E.kept w
  mine : ∀ b k g, H b = some k → k.mine = true → at? ρ b = some g → E.w.heap.size ≤ g ∨ E.owns g
  glob : ∀ g id, gid g = some id → id < E.k ∧ ∃ c, ρ id = some ⟨some ⟨g, 0, none⟩, c⟩

/-- What a step of one operation may do to the world: only the real blocks in B, and new ones. -/
structure Only (B : Nat → Prop) (w w' : World) : Prop where
  os : w'.os = w.os
  tape : w'.tape = w.tape
  output : w'.output = w.output
  size : w.heap.size ≤ w'.heap.size
  block : ∀ g, g < w.heap.size → ¬ B g → w'.heap[g]? = w.heap[g]?

theorem Only.refl (B : Nat → Prop) (w : World) : Only B w w := ⟨rfl, rfl, rfl, Nat.le_refl _, fun _ _ _ => rfl⟩
theorem Only.mono {B B' : Nat → Prop} {w w' : World} (h : Only B w w') (hb : ∀ g, B g → B' g) : Only B' w w' :=
  ⟨h.os, h.tape, h.output, h.size, fun g hg hn => h.block g hg fun hB => hn (hb g hB)⟩

/-- The real blocks of what goes. -/
def gone (ρ : Env) (cs : HL) (g : Nat) : Prop := ∃ b k, lk cs b = some k ∧ k.mine = true ∧ at? ρ b = some g

/-- THE FRAME: a step that takes 'cs' and leaves 'pr', and touches no other real block. -/
theorem WSt.step {P : Program} {gid : Nat → Option Nat} {E : Ent} {ρ ρ' : Env} {H : Hp} {w w' : World} {cs pr : HL} (h : WSt P gid E ρ H w)
    (hcs : ∀ b k, lk cs b = some k → H b = some k) (hext : Ext ρ ρ') (hnew : ∀ b, ρ b = none → ρ' b ≠ none → E.k ≤ b)
    (honly : Only (gone ρ cs) w w')
    (hpr : ∀ b k, lk pr b = some k → BlkOk P ρ' w' b k)
    (hplace : ∀ b k g, lk pr b = some k → k.solid = true → at? ρ' b = some g → gone ρ cs g ∨ w.heap.size ≤ g)
    (hsep : ∀ b b' k k' g, b ≠ b' → lk pr b = some k → lk pr b' = some k' → k.mine = true → k'.solid = true → at? ρ' b = some g → at? ρ' b' ≠ some g)
    (hro : ∀ b k, lk pr b = some k → k.mine = true) (hro' : ∀ b k, lk cs b = some k → k.mine = true) : WSt P gid E ρ' (upd H cs pr) w' := by
  have solid_of_mine : ∀ k : Blk, k.mine = true → k.solid = true := fun k => by cases k <;> simp [Blk.mine, Blk.solid]
  -- what is left of H
  have hrest : ∀ b k, upd H cs pr b = some k → lk pr b = some k ∨ (lk pr b = none ∧ lk cs b = none ∧ H b = some k) := by
    intro b k hb
    unfold upd at hb
    cases hp : lk pr b with
    | some k' => simp [hp] at hb; exact .inl (by rw [hb])
    | none =>
      simp only [hp] at hb
      cases hc : lk cs b with
      | some _ => simp [hc] at hb
      | none => simp [hc] at hb; exact .inr ⟨rfl, rfl, hb⟩
  have hat : ∀ b k, H b = some k → at? ρ' b = at? ρ b := by
    intro b k hb
    have hd : ∃ l, ρ b = some l := by
      have := h.own.ok b k hb
      cases k with
      | ro l => exact ⟨_, this.choose_spec.1⟩
      | own e c => exact ⟨_, this.choose_spec.1⟩
      | mp es => obtain ⟨lc, g, arr, clock, h1, _⟩ := this; exact ⟨lc, h1⟩
      | it s p => obtain ⟨lc, g, h1, _⟩ := this; exact ⟨lc, h1⟩
    obtain ⟨l, hl⟩ := hd
    simp [at?, hl, hext _ _ hl]
  -- an old block that stays isn't among what is gone
  have hstay : ∀ b k g, lk cs b = none → H b = some k → k.solid = true → at? ρ b = some g → ¬ gone ρ cs g := by
    rintro b k g hnb hb hs hg ⟨b', k', hb', hm', hg'⟩
    have hne : b' ≠ b := fun e => by rw [e, hnb] at hb'; cases hb'
    exact h.own.sep b' b k' k g hne (hcs _ _ hb') hb hm' hs hg' hg
  refine ⟨⟨?_, ?_⟩, ?_, ?_, ?_, ?_⟩
  · intro b k hb
    rcases hrest b k hb with hp | ⟨_, hc, hb'⟩
    · exact hpr b k hp
    · refine (h.own.ok b k hb').keep hext fun g hg hs => ?_
      exact honly.block g ((h.own.ok b k hb').lt hs hg) (hstay b k g hc hb' hs hg)
  · intro b b' k k' g hne hb hb' hm hs hg hg'
    rcases hrest b k hb with hp | ⟨_, hc, hH⟩ <;> rcases hrest b' k' hb' with hp' | ⟨_, hc', hH'⟩
    · exact hsep b b' k k' g hne hp hp' hm hs hg hg'
    · rw [hat b' k' hH'] at hg'
      rcases hplace b k g hp (solid_of_mine k hm) hg with hgo | hbig
      · exact hstay b' k' g hc' hH' hs hg' hgo
      · have := (h.own.ok b' k' hH').lt hs hg'
        omega
    · rw [hat b k hH] at hg
      rcases hplace b' k' g hp' hs hg' with hgo | hbig
      · exact hstay b k g hc hH (solid_of_mine k hm) hg hgo
      · have := (h.own.ok b k hH).lt (solid_of_mine k hm) hg
        omega
    · rw [hat b k hH] at hg
      rw [hat b' k' hH'] at hg'
      exact h.own.sep b b' k k' g hne hH hH' hm hs hg hg'
  · intro i hi
    cases hr : ρ i with
    | some l => rw [hext _ _ hr, ← h.ext i hi, hr]
    | none =>
      cases hr' : ρ' i with
      | none => rw [← h.ext i hi, hr]
      | some l =>
        have := hnew i hr (by simp [hr'])
        omega
  · refine ⟨honly.os.trans h.kept.os, honly.tape.trans h.kept.tape, honly.output.trans h.kept.output, Nat.le_trans h.kept.size honly.size, fun g hg hn => ?_⟩
    rw [honly.block g (Nat.lt_of_lt_of_le hg h.kept.size), h.kept.block g hg hn]
    rintro ⟨b, k, hb, hm, hgb⟩
    rcases h.mine b k g (hcs _ _ hb) hm hgb with hh | hh
    · omega
    · exact hn hh
  · intro b k g hb hm hg
    rcases hrest b k hb with hp | ⟨_, hc, hH⟩
    · rcases hplace b k g hp (solid_of_mine k hm) hg with ⟨b', k', hb', hm', hg'⟩ | hbig
      · exact h.mine b' k' g (hcs _ _ hb') hm' hg'
      · exact .inl (Nat.le_trans h.kept.size hbig)
    · rw [hat b k hH] at hg
      exact h.mine b k g hH hm hg
  · intro g id hid
    obtain ⟨h1, c, hc⟩ := h.glob g id hid
    exact ⟨h1, c, hext _ _ hc⟩

end Go.Abs
