/- Ways that only move, step by step. -/
import Derived.Test.YtfeokfaccaenhaaDoorM1
set_option linter.unusedVariables false
set_option linter.unusedSimpArgs false
namespace Go.Abs
def goes (f : List Ins) : Nat → Nat → Nat → Prop
  | 0, p, q => p = q
  | j + 1, p, q => ∃ x, f[p]? = some x ∧ movesI x = true ∧ goes f j (nextP x p) q
theorem goes_snoc {f : List Ins} {x : Ins} : ∀ {j p q : Nat}, goes f j p q → f[q]? = some x → movesI x = true → goes f (j + 1) p (nextP x q)
  | 0, p, q, h, hx, hm => by cases h; exact ⟨x, hx, hm, rfl⟩
  | j + 1, p, q, ⟨y, hy, hm', h⟩, hx, hm => ⟨y, hy, hm', goes_snoc h hx hm⟩
theorem goes_mvs {f : List Ins} : ∀ {j p q k : Nat}, goes f j p q → mvs f k q = true → mvs f (j + k) p = true
  | 0, p, q, k, h, hm => by cases h; simpa using hm
  | j + 1, p, q, k, ⟨y, hy, hm', h⟩, hm => by
    rw [show j + 1 + k = (j + k) + 1 by omega, mvs, hy]
    simp [hm', goes_mvs h hm]
theorem goes_cycle {f : List Ins} {j p : Nat} (h : goes f (j + 1) p p) : ∀ k, mvs f k p = true := by
  have key : ∀ m, mvs f (m * (j + 1)) p = true := by
    intro m
    induction m with
    | zero => simp [mvs]
    | succ m ih => rw [Nat.succ_mul, Nat.add_comm]; exact goes_mvs h ih
  have down : ∀ i k, mvs f (k + i) p = true → mvs f k p = true := by
    intro i
    induction i with
    | zero => intro k h; exact h
    | succ i ih => intro k h; exact ih k (mvs_less (k + i) p h)
  intro k
  refine down (k * (j + 1) - k) k ?_
  have : k ≤ k * (j + 1) := Nat.le_mul_of_pos_right k (by omega)
  rw [show k + (k * (j + 1) - k) = k * (j + 1) by omega]
  exact key k
/-- What comes back to a place goes on without an end. -/
theorem goes_none {f : List Ins} (hr : right f = true) {at_ n p j : Nat} (ha : at_ < f.length) (h1 : goes f n at_ p) (h2 : goes f (j + 1) p p) : pathE f at_ = none := by
  refine (mvs_loop hr ha).1 fun k => ?_
  have := goes_mvs h1 (goes_cycle h2 k)
  have down : ∀ i k, mvs f (k + i) at_ = true → mvs f k at_ = true := by
    intro i
    induction i with
    | zero => intro k h; exact h
    | succ i ih => intro k h; exact ih k (mvs_less (k + i) at_ h)
  exact down n k (by rwa [Nat.add_comm] at this)
/-- The state of a path that is followed. -/
structure PS where
  p : Nat
  T : List So
  n : Nat
  met : List Bool
structure PInv (f : List Ins) (at_ : Nat) (x : PS) : Prop where
  p : x.p < f.length
  T : Okt x.T
  len : x.met.length = 200
  came : goes f x.n at_ x.p
  back : ∀ q : Nat, x.met[q]? = some true → q < f.length ∧ ∃ j, goes f (j + 1) q x.p
  n : x.n = x.met.count true
  path : pathL f (f.length + 1 - x.n) x.p x.T x.n = pathE f at_
theorem pInv_begin {f : List Ins} {at_ : Nat} (ha : at_ < f.length) : PInv f at_ ⟨at_, newT, 0, List.replicate 200 false⟩ := by
  refine ⟨ha, newT_ok, List.length_replicate, rfl, fun q hq => ?_, ?_, rfl⟩
  · rw [List.getElem?_replicate] at hq
    split at hq <;> simp at hq
  · show 0 = (List.replicate 200 false).count true
    rw [List.count_replicate]; rfl
theorem count_le {m : List Bool} {n : Nat} (h : ∀ q : Nat, m[q]? = some true → q < n) : m.count true ≤ n := by
  rw [← List.take_append_drop n m, List.count_append]
  have h1 : (m.take n).count true ≤ (m.take n).length := List.count_le_length
  have h2 : (m.take n).length ≤ n := by simp; omega
  have h3 : (m.drop n).count true = 0 := by
    rw [List.count_eq_zero]
    intro hm
    obtain ⟨i, hi⟩ := List.getElem?_of_mem hm
    rw [List.getElem?_drop] at hi
    have := h _ hi
    omega
  omega
theorem pInv_n {f : List Ins} {at_ : Nat} {x : PS} (h : PInv f at_ x) : x.n ≤ f.length := by rw [h.n]; exact count_le fun q hq => (h.back q hq).1
theorem count_set {m : List Bool} : ∀ {p : Nat}, m[p]? = some false → (m.set p true).count true = m.count true + 1 := by
  induction m with
  | nil => intro p h; simp at h
  | cons b m ih =>
    intro p h
    cases p with
    | zero => simp at h; subst h; simp
    | succ p =>
      have := ih (p := p) (by simpa using h)
      rw [List.set_cons_succ, List.count_cons, List.count_cons, this]
      omega
theorem pInv_next {f : List Ins} {at_ : Nat} {x : PS} {y : Ins} (hr : right f = true) (h : PInv f at_ x) (hy : f[x.p]? = some y) (hm : movesI y = true) (hn : x.met[x.p]? = some false) : PInv f at_ ⟨nextP y x.p, afterT x.T y, x.n + 1, x.met.set x.p true⟩ := by
  obtain ⟨hd, ha, _⟩ := insErr_loc (right_at hr hy)
  refine ⟨nextP_lt hr hy hm, after_ok h.T hd ha, by simpa using h.len, goes_snoc h.came hy hm, fun q hq => ?_, ?_, ?_⟩
  · by_cases e : q = x.p
    · subst e; exact ⟨h.p, 0, y, hy, hm, rfl⟩
    · rw [List.getElem?_set_ne (fun e' => e e'.symm)] at hq
      obtain ⟨h1, j, h2⟩ := h.back q hq
      exact ⟨h1, j + 1, goes_snoc h2 hy hm⟩
  · show x.n + 1 = _
    rw [count_set hn]; have := h.n; omega
  · have hle := pInv_n h
    have hp := h.path
    rw [show f.length + 1 - x.n = (f.length + 1 - (x.n + 1)) + 1 by omega, pathL] at hp
    simp only [hy, hm, if_true] at hp
    exact hp
theorem pInv_end {f : List Ins} {at_ : Nat} {x : PS} {y : Ins} (hr : right f = true) (h : PInv f at_ x) (hy : f[x.p]? = some y) (hm : movesI y = false) : pathE f at_ = some (x.p, x.T, x.n) ∧ x.met[x.p]? = some false := by
  have hle := pInv_n h
  have hp := h.path
  rw [show f.length + 1 - x.n = (f.length - x.n) + 1 by omega, pathL] at hp
  simp only [hy, hm] at hp
  refine ⟨by rw [← hp]; rfl, ?_⟩
  have hlt : x.p < x.met.length := by rw [h.len]; have := h.p; have := (right_len hr).2; omega
  cases hq : x.met[x.p]? with
  | none => rw [List.getElem?_eq_none_iff] at hq; omega
  | some b =>
    cases b with
    | false => rfl
    | true =>
      obtain ⟨_, j, z, hz, hmz, _⟩ := h.back _ hq
      rw [hy] at hz; cases hz
      rw [hm] at hmz; cases hmz
theorem pInv_loop {f : List Ins} {at_ : Nat} {x : PS} (hr : right f = true) (ha : at_ < f.length) (h : PInv f at_ x) (hm : x.met[x.p]? = some true) : pathE f at_ = none := by
  obtain ⟨_, j, hj⟩ := h.back _ hm
  exact goes_none hr ha h.came hj
end Go.Abs
