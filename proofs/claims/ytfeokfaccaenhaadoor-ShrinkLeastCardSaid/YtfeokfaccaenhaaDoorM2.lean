/- What two runs tell; a case made smaller: plainly. -/
import Derived.Test.YtfeokfaccaenhaaDoorM1
set_option linter.unusedVariables false
set_option linter.unusedSimpArgs false
namespace Go.Abs
def halted (o : Otc) : Bool := decide (1 ≤ o.how ∧ o.how ≤ 4)
def evLe (a b : List Evn) : Bool := decide (a = b.take a.length)
theorem evLe_iff {a b : List Evn} : evLe a b = true ↔ a <+: b := by unfold evLe; rw [decide_eq_true_eq, List.prefix_iff_eq_take]
theorem evLe_refl (a : List Evn) : evLe a a = true := evLe_iff.2 (List.prefix_refl a)
structure Sid where
  ev : List Evn
  out : Otc
  sil : Bool
def sideOf (f : List Ins) (c : Cas) : Sid := ⟨(runC f c).2.ev, (runC f c).2.out, decide ((runC f c).2.out.how = 0) && (pathE f (runC f c).1.pc).isNone⟩
def tell1 (a b : Sid) : Bool := !(evLe a.ev b.ev || evLe b.ev a.ev)
def tell2 (a b : Sid) : Bool := (halted a.out && !evLe b.ev a.ev) || (halted b.out && !evLe a.ev b.ev)
def tell3 (a b : Sid) : Bool := halted a.out && (halted b.out && decide (a.out ≠ b.out))
def tell4 (a b : Sid) : Bool := (halted a.out && b.sil) || (halted b.out && a.sil)
def tellS (a b : Sid) : Int := if tell1 a b = true then 1 else if tell2 a b = true then 2 else if tell3 a b = true then 3 else if tell4 a b = true then 4 else 0
def tellC (f g : List Ins) (c : Cas) : Int := tellS (sideOf f c) (sideOf g c)
theorem tellS_ne {a b : Sid} : tellS a b ≠ 0 ↔ (tell1 a b = true ∨ tell2 a b = true ∨ tell3 a b = true ∨ tell4 a b = true) := by
  unfold tellS
  repeat' split
  all_goals simp_all
theorem tellS_comm (a b : Sid) : tellS a b = tellS b a := by
  have h1 : tell1 a b = tell1 b a := by unfold tell1; rw [Bool.or_comm]
  have h2 : tell2 a b = tell2 b a := by unfold tell2; rw [Bool.or_comm]
  have h3 : tell3 a b = tell3 b a := by
    unfold tell3
    rw [← Bool.and_assoc, ← Bool.and_assoc, Bool.and_comm (halted a.out)]
    congr 1
    exact decide_eq_decide.2 ⟨fun h e => h e.symm, fun h e => h e.symm⟩
  have h4 : tell4 a b = tell4 b a := by unfold tell4; rw [Bool.or_comm]
  unfold tellS
  rw [h1, h2, h3, h4]
theorem tellC_comm (f g : List Ins) (c : Cas) : tellC f g c = tellC g f c := tellS_comm _ _
theorem tellC_self (f : List Ins) (c : Cas) : tellC f f c = 0 := by
  unfold tellC tellS tell1 tell2 tell3 tell4
  simp only [evLe_refl]
  have : (halted (sideOf f c).out && (sideOf f c).sil) = false := by
    unfold sideOf halted
    simp only
    cases h : decide ((runC f c).2.out.how = 0) with
    | false => simp
    | true =>
      have := of_decide_eq_true h
      simp [this]
  simp [this]
theorem tell1_iff {a b : Sid} : tell1 a b = true ↔ ¬ a.ev <+: b.ev ∧ ¬ b.ev <+: a.ev := by
  unfold tell1
  rw [← evLe_iff, ← evLe_iff]
  cases evLe a.ev b.ev <;> cases evLe b.ev a.ev <;> simp
theorem tell2_iff {a b : Sid} : tell2 a b = true ↔ (halted a.out = true ∧ ¬ b.ev <+: a.ev) ∨ (halted b.out = true ∧ ¬ a.ev <+: b.ev) := by
  unfold tell2
  rw [← evLe_iff, ← evLe_iff]
  cases evLe a.ev b.ev <;> cases evLe b.ev a.ev <;> simp
/-- One side tells no more than another. -/
structure Les (a b : Sid) : Prop where
  halt : halted a.out = true → b.ev = a.ev ∧ b.out = a.out
  ev : a.ev <+: b.ev
  sil : a.sil = true → b.sil = true
theorem Les.refl (a : Sid) : Les a a := ⟨fun _ => ⟨rfl, rfl⟩, List.prefix_refl _, fun h => h⟩
theorem tell_mono {a a' b b' : Sid} (ha : Les a a') (hb : Les b b') (h : tellS a b ≠ 0) : tellS a' b' ≠ 0 := by
  rw [tellS_ne] at h ⊢
  have half : ∀ {x x' y y' : Sid}, Les x x' → Les y y' → halted x.out = true → ¬ y.ev <+: x.ev → halted x'.out = true ∧ ¬ y'.ev <+: x'.ev := by
    intro x x' y y' hx hy h1 h2
    obtain ⟨e1, e2⟩ := hx.halt h1
    refine ⟨by rw [e2]; exact h1, fun h3 => h2 (hy.ev.trans (by rw [← e1]; exact h3))⟩
  have cmp : ∀ {p q r : List Evn}, p <+: r → q <+: r → p <+: q ∨ q <+: p := fun h1 h2 => List.prefix_or_prefix_of_prefix h1 h2
  rcases h with h | h | h | h
  · left
    rw [tell1_iff] at h ⊢
    refine ⟨fun h1 => ?_, fun h1 => ?_⟩
    · rcases cmp (ha.ev.trans h1) hb.ev with h2 | h2
      · exact h.1 h2
      · exact h.2 h2
    · rcases cmp (hb.ev.trans h1) ha.ev with h2 | h2
      · exact h.2 h2
      · exact h.1 h2
  · right; left
    rw [tell2_iff] at h ⊢
    rcases h with ⟨h1, h2⟩ | ⟨h1, h2⟩
    · exact .inl (half ha hb h1 h2)
    · exact .inr (half hb ha h1 h2)
  · right; right; left
    unfold tell3 at h ⊢
    simp only [Bool.and_eq_true, decide_eq_true_eq] at h ⊢
    obtain ⟨h1, h2, h3⟩ := h
    rw [(ha.halt h1).2, (hb.halt h2).2]
    exact ⟨h1, h2, h3⟩
  · right; right; right
    unfold tell4 at h ⊢
    simp only [Bool.or_eq_true, Bool.and_eq_true] at h ⊢
    rcases h with ⟨h1, h2⟩ | ⟨h1, h2⟩
    · exact .inl ⟨by rw [(ha.halt h1).2]; exact h1, hb.sil h2⟩
    · exact .inr ⟨by rw [(hb.halt h1).2]; exact h1, ha.sil h2⟩
theorem halted_ne {o : Otc} (h : halted o = true) : o.how ≠ 0 ∧ o.how ≠ 5 := by unfold halted at h; have := of_decide_eq_true h; omega
/-- More fuel. -/
theorem side_fuel {f : List Ins} (hr : right f = true) (c : Cas) {n m : Nat} (h : n ≤ m) : Les (sideOf f { c with fuel := n }) (sideOf f { c with fuel := m }) := by
  obtain ⟨j, rfl⟩ := Nat.exists_eq_add_of_le h
  have hA := run_add (f := f) (A := c.A) n j (beginS c) trc0 rfl
  have e1 : runC f { c with fuel := (n : Nat) } = runL f c.A n (beginS c) trc0 := by simp [runC]; rfl
  have e2 : runC f { c with fuel := ((n + j : Nat) : Int) } = runL f c.A (n + j) (beginS c) trc0 := by
    show runL f c.A ((n + j : Nat) : Int).toNat (beginS c) trc0 = _
    rw [Int.toNat_natCast]
  unfold sideOf
  rw [e1, e2, hA]
  split
  · rename_i h0
    refine ⟨fun hh => absurd h0 (halted_ne hh).1, run_ev j _ _, fun hs => ?_⟩
    simp only [Bool.and_eq_true, decide_eq_true_eq, Option.isNone_iff_eq_none] at hs ⊢
    have hp := run_pc (A := c.A) hr n (s := beginS c) (t := trc0) (right_len hr).1
    have := run_silent (A := c.A) hr j _ (runL f c.A n (beginS c) trc0).2 hp hs.2 h0
    exact ⟨this.1, this.2.2⟩
  · exact Les.refl _
/-- More answers. -/
theorem side_answers {f : List Ins} (c : Cas) {n m : Nat} (h : n ≤ m) : Les (sideOf f { c with A := c.A.take n }) (sideOf f { c with A := c.A.take m }) := by
  have hA : c.A.take n <+: c.A.take m := by
    have h1 := List.take_prefix n (c.A.take m)
    rwa [List.take_take, Nat.min_eq_left h] at h1
  have e : ∀ k, runC f { c with A := c.A.take k } = runL f (c.A.take k) c.fuel.toNat (beginS c) trc0 := fun k => rfl
  unfold sideOf
  rw [e, e]
  rcases run_answers (f := f) hA c.fuel.toNat (beginS c) trc0 with h1 | ⟨h1, h2⟩
  · rw [h1]; exact Les.refl _
  · refine ⟨fun hh => absurd h1 (halted_ne hh).2, h2, fun hs => ?_⟩
    simp only [Bool.and_eq_true, decide_eq_true_eq] at hs
    omega
/-! ### The least number for which something is so -/
def leastN (P : Nat → Bool) : Nat → Nat → Nat
  | 0, i => i
  | k + 1, i => if P i = true then i else leastN P k (i + 1)
theorem least_spec (P : Nat → Bool) : ∀ (k i : Nat), i ≤ leastN P k i ∧ leastN P k i ≤ i + k ∧ (∀ j, i ≤ j → j < leastN P k i → P j = false) ∧ (leastN P k i < i + k → P (leastN P k i) = true)
  | 0, i => ⟨Nat.le_refl _, Nat.le_refl _, fun j h1 h2 => absurd h2 (by simp [leastN]; omega), fun h => absurd h (by simp [leastN])⟩
  | k + 1, i => by
    rw [leastN]
    split
    · rename_i h; exact ⟨Nat.le_refl _, by omega, fun j h1 h2 => absurd h2 (by omega), fun _ => h⟩
    · rename_i h
      obtain ⟨h1, h2, h3, h4⟩ := least_spec P k (i + 1)
      refine ⟨by omega, by omega, fun j h5 h6 => ?_, fun h5 => h4 (by omega)⟩
      by_cases e : j = i
      · subst e; simpa using h
      · exact h3 j (by omega) h6
theorem least_eq {P : Nat → Bool} {n m : Nat} (h1 : m ≤ n) (h2 : ∀ j, j < m → P j = false) (h3 : m < n → P m = true) : leastN P n 0 = m := by
  obtain ⟨a1, a2, a3, a4⟩ := least_spec P n 0
  rcases Nat.lt_trichotomy (leastN P n 0) m with h | h | h
  · have := a4 (by omega)
    rw [h2 _ h] at this
    cases this
  · exact h
  · have := h3 (by omega)
    rw [a3 m (Nat.zero_le _) h] at this
    cases this
theorem least_last {P : Nat → Bool} {n : Nat} (h : P n = true) : P (leastN P n 0) = true := by
  obtain ⟨a1, a2, a3, a4⟩ := least_spec P n 0
  by_cases e : leastN P n 0 = n
  · rw [e]; exact h
  · exact a4 (by omega)
/-! ### A case made smaller -/
def popH (T : Cas → Bool) : Nat → Cas → Cas
  | 0, c => c
  | n + 1, c => if T { c with H := c.H.take n } = true then popH T n { c with H := c.H.take n } else c
def zeroR (T : Cas → Bool) : Nat → Nat → Cas → Cas
  | 0, _, c => c
  | k + 1, i, c => zeroR T k (i + 1) (if T { c with R := c.R.set i 0 } = true then { c with R := c.R.set i 0 } else c)
def fuelC (T : Cas → Bool) (c : Cas) : Cas := { c with fuel := (leastN (fun n => T { c with fuel := n }) c.fuel.toNat 0 : Nat) }
def ansN (T : Cas → Bool) (c : Cas) : Nat := leastN (fun n => T { c with A := c.A.take n }) c.A.length 0
def ansC (T : Cas → Bool) (c : Cas) : Cas := { c with A := c.A.take (ansN T c) }
def shrinkC (T : Cas → Bool) (c : Cas) : Cas := zeroR T 8 0 (popH T (ansC T (fuelC T c)).H.length (ansC T (fuelC T c)))
/-- One case is less than another. -/
structure Small (c d : Cas) : Prop where
  fuel : c.fuel ≤ d.fuel ∧ (0 ≤ d.fuel → 0 ≤ c.fuel)
  A : c.A = d.A.take c.A.length ∧ c.A.length ≤ d.A.length
  H : c.H = d.H.take c.H.length ∧ c.H.length ≤ d.H.length
  R : c.R.length = d.R.length ∧ ∀ i : Nat, c.R[i]? = d.R[i]? ∨ c.R[i]? = some 0
theorem Small.refl (c : Cas) : Small c c := ⟨⟨Int.le_refl _, fun h => h⟩, ⟨by simp, Nat.le_refl _⟩, ⟨by simp, Nat.le_refl _⟩, rfl, fun i => .inl rfl⟩
theorem take_trans {α : Type} {a b c : List α} (h1 : a = b.take a.length) (h2 : b = c.take b.length) (hl : a.length ≤ b.length) : a = c.take a.length := by
  have h3 : b.take a.length = (c.take b.length).take a.length := by rw [← h2]
  rw [List.take_take, Nat.min_eq_left hl] at h3
  rw [← h3]
  exact h1
theorem Small.trans {a b c : Cas} (h : Small a b) (k : Small b c) : Small a c := by
  refine ⟨⟨Int.le_trans h.fuel.1 k.fuel.1, fun h0 => h.fuel.2 (k.fuel.2 h0)⟩, ⟨take_trans h.A.1 k.A.1 h.A.2, Nat.le_trans h.A.2 k.A.2⟩, ⟨take_trans h.H.1 k.H.1 h.H.2, Nat.le_trans h.H.2 k.H.2⟩, h.R.1.trans k.R.1, fun i => ?_⟩
  rcases h.R.2 i with h1 | h1
  · rcases k.R.2 i with h2 | h2
    · exact .inl (h1.trans h2)
    · exact .inr (h1.trans h2)
  · exact .inr h1
theorem small_A (c : Cas) (n : Nat) : Small { c with A := c.A.take n } c := ⟨⟨Int.le_refl _, fun h => h⟩, ⟨by simp [List.take_take], by simp; omega⟩, ⟨by simp, Nat.le_refl _⟩, rfl, fun i => .inl rfl⟩
theorem small_H (c : Cas) (n : Nat) : Small { c with H := c.H.take n } c := ⟨⟨Int.le_refl _, fun h => h⟩, ⟨by simp, Nat.le_refl _⟩, ⟨by simp, by simp; omega⟩, rfl, fun i => .inl rfl⟩
theorem small_F (c : Cas) {n : Nat} (h : (n : Int) ≤ c.fuel) : Small { c with fuel := n } c := ⟨⟨h, fun _ => by simp⟩, ⟨by simp, Nat.le_refl _⟩, ⟨by simp, Nat.le_refl _⟩, rfl, fun i => .inl rfl⟩
theorem small_R (c : Cas) (i : Nat) : Small { c with R := c.R.set i 0 } c := by
  refine ⟨⟨Int.le_refl _, fun h => h⟩, ⟨by simp, Nat.le_refl _⟩, ⟨by simp, Nat.le_refl _⟩, by simp, fun j => ?_⟩
  simp only [List.getElem?_set]
  split
  · split
    · exact .inr rfl
    · rename_i h1 h2; subst h1; exact .inl (List.getElem?_eq_none (by omega)).symm
  · exact .inl rfl
theorem small_pop (T : Cas → Bool) : ∀ (n : Nat) (c : Cas), Small (popH T n c) c ∧ (T c = true → T (popH T n c) = true) ∧ (popH T n c).fuel = c.fuel ∧ (popH T n c).A = c.A
  | 0, c => ⟨Small.refl c, fun h => h, rfl, rfl⟩
  | n + 1, c => by
    rw [popH]
    split
    · rename_i h
      obtain ⟨h1, h2, h3, h4⟩ := small_pop T n { c with H := c.H.take n }
      exact ⟨h1.trans (small_H c n), fun _ => h2 h, h3, h4⟩
    · exact ⟨Small.refl c, fun h => h, rfl, rfl⟩
theorem small_zero (T : Cas → Bool) : ∀ (k i : Nat) (c : Cas), Small (zeroR T k i c) c ∧ (T c = true → T (zeroR T k i c) = true) ∧ (zeroR T k i c).fuel = c.fuel ∧ (zeroR T k i c).A = c.A
  | 0, i, c => ⟨Small.refl c, fun h => h, rfl, rfl⟩
  | k + 1, i, c => by
    rw [zeroR]
    split
    · rename_i h
      obtain ⟨h1, h2, h3, h4⟩ := small_zero T k (i + 1) { c with R := c.R.set i 0 }
      exact ⟨h1.trans (small_R c i), fun _ => h2 h, h3, h4⟩
    · exact small_zero T k (i + 1) c
theorem small_fuel (T : Cas → Bool) (c : Cas) (h0 : 0 ≤ c.fuel) (h : T c = true) : Small (fuelC T c) c ∧ T (fuelC T c) = true := by
  have hl := least_spec (fun n => T { c with fuel := n }) c.fuel.toNat 0
  refine ⟨small_F c (by omega), ?_⟩
  refine least_last (P := fun n => T { c with fuel := n }) ?_
  show T { c with fuel := (c.fuel.toNat : Nat) } = true
  rw [Int.toNat_of_nonneg h0]
  exact h
theorem small_ans (T : Cas → Bool) (c : Cas) (h : T c = true) : Small (ansC T c) c ∧ T (ansC T c) = true := by
  refine ⟨small_A c _, ?_⟩
  refine least_last (P := fun n => T { c with A := c.A.take n }) ?_
  show T { c with A := c.A.take c.A.length } = true
  rw [List.take_length]
  exact h
theorem shrink_spec (T : Cas → Bool) (c : Cas) (h0 : 0 ≤ c.fuel) (h : T c = true) : Small (shrinkC T c) c ∧ T (shrinkC T c) = true ∧ (shrinkC T c).fuel = (fuelC T c).fuel ∧ (shrinkC T c).A = (ansC T (fuelC T c)).A := by
  obtain ⟨h1, h2⟩ := small_fuel T c h0 h
  obtain ⟨h3, h4⟩ := small_ans T (fuelC T c) h2
  obtain ⟨h5, h6, h7, h8⟩ := small_pop T (ansC T (fuelC T c)).H.length (ansC T (fuelC T c))
  obtain ⟨h9, h10, h11, h12⟩ := small_zero T 8 0 (popH T (ansC T (fuelC T c)).H.length (ansC T (fuelC T c)))
  exact ⟨h9.trans (h5.trans (h3.trans h1)), h10 (h6 h4), h11.trans h7, h12.trans h8⟩
theorem small_ok {c d : Cas} (h : Small c d) (hd : caseOk d = true) : caseOk c = true := by
  simp only [caseOk, Bool.and_eq_true, decide_eq_true_eq] at hd ⊢
  have h1 := h.fuel
  have h2 := h.A.2
  have h3 := h.H.2
  exact ⟨by omega, by omega, h1.2 hd.2.2.1, by omega⟩
end Go.Abs
