/- Paths: where what only moves leads; what goes on without an end. -/
import Derived.Test.YtfeokfaccaenhaaDoorM0
set_option linter.unusedVariables false
set_option linter.unusedSimpArgs false
namespace Go.Abs
/-- A place's source: what a place had, or a constant. -/
inductive So where
  | was (l : Int)
  | is (n : Int)
  deriving DecidableEq, Inhabited
def newT : List So := (List.range 24).map fun (i : Nat) => So.was (i : Int)
def getT (T : List So) (l : Int) : So := (T[l.toNat]?).getD (.was 0)
/-- The table behind an instruction. -/
def afterT (T : List So) (x : Ins) : List So :=
  if x.op = 1 then T.set x.d.toNat (.is x.n) else if x.op = 2 then T.set x.d.toNat (getT T x.a)
  else if x.op = 3 then (T.set x.d.toNat (getT T x.a)).set x.a.toNat (getT T x.d) else T
def So.ok : So → Bool
  | .was l => decide (0 ≤ l) && decide (l < 24)
  | .is _ => true
structure Okt (T : List So) : Prop where
  len : T.length = 24
  all : ∀ s ∈ T, s.ok = true
theorem newT_ok : Okt newT := ⟨rfl, by decide⟩
theorem getT_mem {T : List So} {l : Int} (h : T.length = 24) (h0 : 0 ≤ l) (h1 : l < 24) : getT T l ∈ T ∧ T[l.toNat]? = some (getT T l) := by
  have hx : T[l.toNat]? = some (T[l.toNat]'(by omega)) := List.getElem?_eq_getElem (by omega)
  unfold getT
  rw [hx]
  exact ⟨List.getElem_mem _, rfl⟩
theorem okt_set {T : List So} {i : Nat} {s : So} (h : Okt T) (hs : s.ok = true) : Okt (T.set i s) := by
  refine ⟨by simpa using h.len, fun s' hm => ?_⟩
  rcases List.mem_or_eq_of_mem_set hm with h1 | rfl
  · exact h.all s' h1
  · exact hs
theorem after_ok {T : List So} {x : Ins} (h : Okt T) (hd : 0 ≤ x.d ∧ x.d < 24) (ha : 0 ≤ x.a ∧ x.a < 24) : Okt (afterT T x) := by
  have hga := h.all _ (getT_mem h.len ha.1 ha.2).1
  have hgd := h.all _ (getT_mem h.len hd.1 hd.2).1
  unfold afterT
  repeat' split
  · exact okt_set h rfl
  · exact okt_set h hga
  · exact okt_set (okt_set h hga) hgd
  · exact h
def nextP (x : Ins) (p : Nat) : Nat := if x.op = 16 then x.to.toNat else p + 1
/-- The path from a place: where it leads, what places have there, how many steps; none: it goes on without an end. -/
def pathL (f : List Ins) : Nat → Nat → List So → Nat → Option (Nat × List So × Nat)
  | 0, _, _, _ => none
  | k + 1, p, T, n => match f[p]? with
    | none => none
    | some x => if movesI x = true then pathL f k (nextP x p) (afterT T x) (n + 1) else some (p, T, n)
def pathE (f : List Ins) (p : Nat) : Option (Nat × List So × Nat) := pathL f (f.length + 1) p newT 0
/-- So many instructions from a place on only move. -/
def mvs (f : List Ins) : Nat → Nat → Bool
  | 0, _ => true
  | k + 1, p => match f[p]? with
    | some x => movesI x && mvs f k (nextP x p)
    | none => false
section
variable {f : List Ins} (hr : right f = true)
include hr
theorem nextP_lt {p : Nat} {x : Ins} (hx : f[p]? = some x) (hm : movesI x = true) : nextP x p < f.length := by
  unfold movesI at hm
  have hm := of_decide_eq_true hm
  unfold nextP
  split
  · rename_i h; have := right_to hr hx (.inl h); omega
  · rename_i h; exact right_next hr hx h (by omega)
theorem path_none : ∀ (k p : Nat) (T : List So) (n : Nat), p < f.length → (pathL f k p T n = none ↔ mvs f k p = true)
  | 0, p, T, n, hp => by simp [pathL, mvs]
  | k + 1, p, T, n, hp => by
    obtain ⟨x, hx⟩ : ∃ x, f[p]? = some x := ⟨_, List.getElem?_eq_getElem hp⟩
    simp only [pathL, mvs, hx]
    by_cases hm : movesI x = true
    · rw [if_pos hm, hm, Bool.true_and]
      exact path_none k _ _ _ (nextP_lt hr hx hm)
    · simp [hm]
omit hr in
theorem mvs_less : ∀ (k p : Nat), mvs f (k + 1) p = true → mvs f k p = true
  | 0, p, _ => rfl
  | k + 1, p, h => by
    rw [mvs] at h ⊢
    split
    · rename_i x hx
      simp only [hx, Bool.and_eq_true] at h ⊢
      exact ⟨h.1, mvs_less k _ h.2⟩
    · rename_i hx
      simp only [hx] at h
      cases h
omit hr in
theorem count_eq {α : Type} {P Q : α → Bool} : ∀ {l : List α}, (∀ x ∈ l, P x = true → Q x = true) → l.countP P = l.countP Q → ∀ x ∈ l, Q x = true → P x = true
  | [], _, _, x, hx, _ => by cases hx
  | y :: l, h, hc, x, hx, hq => by
    have hle : l.countP P ≤ l.countP Q := List.countP_mono_left fun x hx => h x (List.mem_cons_of_mem _ hx)
    have hy := h y (List.mem_cons_self ..)
    simp only [List.countP_cons] at hc
    have hc2 : l.countP P = l.countP Q ∧ (Q y = true → P y = true) := by
      cases hp : P y <;> cases hq : Q y <;> simp_all <;> omega
    rcases List.mem_cons.1 hx with rfl | hx
    · exact hc2.2 hq
    · exact count_eq (fun x hx => h x (List.mem_cons_of_mem _ hx)) hc2.1 x hx hq
def stab (f : List Ins) (k : Nat) : Prop := ∀ p, p < f.length → mvs f k p = true → mvs f (k + 1) p = true
theorem stab_next {k : Nat} (h : stab f k) : stab f (k + 1) := by
  intro p hp hm
  rw [mvs] at hm ⊢
  split
  · rename_i x hx
    simp only [hx, Bool.and_eq_true] at hm ⊢
    exact ⟨hm.1, h _ (nextP_lt hr hx hm.1) hm.2⟩
  · rename_i hx
    simp only [hx] at hm
    cases hm
omit hr in
theorem stab_ex : ∃ k, k ≤ f.length ∧ stab f k := by
  refine Classical.byContradiction fun hn => ?_
  have key : ∀ k, k ≤ f.length + 1 → (List.range f.length).countP (mvs f k) + k ≤ f.length := by
    intro k
    induction k with
    | zero => intro _; simpa using List.countP_le_length (p := mvs f 0) (l := List.range f.length)
    | succ k ih =>
      intro hk
      have h1 := ih (by omega)
      have h2 : (List.range f.length).countP (mvs f (k + 1)) ≤ (List.range f.length).countP (mvs f k) := List.countP_mono_left fun p _ hp => mvs_less k p hp
      by_cases he : (List.range f.length).countP (mvs f (k + 1)) = (List.range f.length).countP (mvs f k)
      · exact absurd ⟨k, by omega, fun p hp hm => count_eq (fun p _ hp => mvs_less k p hp) he p (List.mem_range.2 hp) hm⟩ hn
      · omega
  have := key (f.length + 1) (Nat.le_refl _)
  omega
theorem stab_from {k : Nat} (h : stab f k) : ∀ j, stab f (k + j)
  | 0 => h
  | j + 1 => stab_next hr (stab_from h j)
theorem mvs_all {p : Nat} (hp : p < f.length) (h : mvs f (f.length + 1) p = true) : ∀ k, mvs f k p = true := by
  obtain ⟨k0, hk, hs⟩ := stab_ex (f := f)
  have up : ∀ j, mvs f (f.length + 1 + j) p = true := by
    intro j
    induction j with
    | zero => exact h
    | succ j ih =>
      have := stab_from hr hs (f.length + 1 + j - k0)
      rw [show k0 + (f.length + 1 + j - k0) = f.length + 1 + j by omega] at this
      exact this p hp ih
  have down : ∀ j k, mvs f (k + j) p = true → mvs f k p = true := by
    intro j
    induction j with
    | zero => intro k h; exact h
    | succ j ih => intro k h; exact ih k (mvs_less (k + j) p h)
  intro k
  exact down (f.length + 1) k (by have := up k; rwa [Nat.add_comm] at this)
/-- What comes back to a place that it has left goes on without an end. -/
theorem mvs_loop {p : Nat} (hp : p < f.length) : (∀ k, mvs f k p = true) ↔ pathE f p = none := by
  unfold pathE
  rw [path_none hr _ _ _ _ hp]
  exact ⟨fun h => h _, mvs_all hr hp⟩
theorem silent_next {p : Nat} (hp : p < f.length) (h : pathE f p = none) : ∃ x, f[p]? = some x ∧ movesI x = true ∧ nextP x p < f.length ∧ pathE f (nextP x p) = none := by
  have h1 := (mvs_loop hr hp).2 h
  obtain ⟨x, hx⟩ : ∃ x, f[p]? = some x := ⟨_, List.getElem?_eq_getElem hp⟩
  have hm : movesI x = true := by
    have := h1 1
    simp only [mvs, hx, Bool.and_eq_true] at this
    exact this.1
  have hn := nextP_lt hr hx hm
  refine ⟨x, hx, hm, hn, (mvs_loop hr hn).1 fun k => ?_⟩
  have := h1 (k + 1)
  simp only [mvs, hx, Bool.and_eq_true] at this
  exact this.2
end
theorem step_moves {x : Ins} {s : Mst} {A : List Int} (hm : movesI x = true) : (stepX x s A).1.pc = nextP x s.pc ∧ (stepX x s A).2 = ([], goOn) := by
  unfold movesI at hm
  have hm := of_decide_eq_true hm
  unfold stepX nextP
  by_cases h1 : x.op = 1
  · simp [h1]
  by_cases h2 : x.op = 2
  · simp [h2]
  by_cases h3 : x.op = 3
  · simp [h3]
  have h4 : x.op = 16 := by omega
  simp [h4]
theorem run_silent {f : List Ins} {A : List Int} (hr : right f = true) : ∀ (k : Nat) (s : Mst) (t : Trc), s.pc < f.length → pathE f s.pc = none → t.out.how = 0 → (runL f A k s t).2.out.how = 0 ∧ (runL f A k s t).1.pc < f.length ∧ pathE f (runL f A k s t).1.pc = none
  | 0, s, t, hp, h, h0 => ⟨h0, hp, h⟩
  | k + 1, s, t, hp, h, h0 => by
    obtain ⟨x, hx, hm, hn, h1⟩ := silent_next hr hp h
    obtain ⟨h2, h3⟩ := step_moves (s := s) (A := A) hm
    have h5 : (stepX x s A).2.2.how = 0 := by rw [h3]; rfl
    simp only [runL, hx, h5, if_true]
    refine run_silent hr k _ _ (by rw [h2]; exact hn) (by rw [h2]; exact h1) ?_
    exact h5
end Go.Abs
