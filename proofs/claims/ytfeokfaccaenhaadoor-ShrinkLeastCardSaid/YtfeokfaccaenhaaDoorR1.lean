/- What it says that a function is right. -/
import Derived.Test.YtfeokfaccaenhaaDoorE3
set_option linter.unusedVariables false
set_option linter.unusedSimpArgs false
namespace Go.Abs
theorem firstBad_none {n : Int} : ∀ {l : List Ins} {i : Nat}, firstBad n l i = none ↔ ∀ x ∈ l, insErr x n = 0
  | [], i => by simp [firstBad]
  | x :: l, i => by
    rw [firstBad]
    split
    · rename_i h; rw [firstBad_none]; simp [h]
    · rename_i h; simp [h]
theorem firstBad_some {n : Int} : ∀ {l : List Ins} {i j : Nat} {e : Int}, firstBad n l i = some (j, e) → e ≠ 0
  | [], i, j, e, h => by simp [firstBad] at h
  | x :: l, i, j, e, h => by
    rw [firstBad] at h
    split at h
    · exact firstBad_some h
    · rename_i hne; cases h; exact hne
theorem right_iff (f : List Ins) : right f = true ↔ (f.length ≤ 200 ∧ f.length ≠ 0 ∧ (∀ x ∈ f, insErr x f.length = 0) ∧ (lastOp f = 16 ∨ lastOp f = 18)) := by
  unfold right asmChk
  rw [decide_eq_true_eq]
  split
  · rename_i h; exact ⟨fun h => absurd h (by decide), fun h' => absurd h'.1 (by omega)⟩
  split
  · rename_i h1 h; exact ⟨fun h => absurd h (by decide), fun h' => absurd h h'.2.1⟩
  rename_i h1 h2
  split
  · rename_i i e he
    have h3 := firstBad_some he
    have h4 : ¬ ∀ x ∈ f, insErr x f.length = 0 := fun h => by rw [firstBad_none.2 h] at he; cases he
    simp only [h3, h4, false_and, and_false]
  · rename_i he
    have h4 := firstBad_none.1 he
    split
    · rename_i h5; exact ⟨fun _ => ⟨by omega, h2, h4, h5⟩, fun _ => rfl⟩
    · rename_i h5; simp [h5]
theorem insErr_range {x : Ins} {n : Int} (h : insErr x n = 0) (ht : x.op = 16 ∨ x.op = 17) : 0 ≤ x.to ∧ x.to < n := by
  unfold insErr at h
  repeat' split at h
  all_goals first | (cases h; done) | omega
theorem w64i {i k : Nat} (h : i < k) (hk : k ≤ 1000000000000) : IntKind.i64.wrap ((i : Int) + 1) = ((i + 1 : Nat) : Int) := by
  rw [w64 (by omega) (by omega)]; rfl
theorem insErr_op {x : Ins} {n : Int} (h : insErr x n = 0) : 1 ≤ x.op ∧ x.op ≤ 18 := by
  unfold insErr at h
  split at h
  · cases h
  · omega
theorem insErr_loc {x : Ins} {n : Int} (h : insErr x n = 0) : (0 ≤ x.d ∧ x.d < 24) ∧ (0 ≤ x.a ∧ x.a < 24) ∧ (0 ≤ x.b ∧ x.b < 24) := by
  have h1 := insErr_op h
  unfold insErr at h
  repeat' split at h
  all_goals first
    | (cases h; done)
    | (rename_i a b c d e; exact ⟨by omega, by omega, by omega⟩)
    | (rename_i h2 h3 h4 h5 h6; simp only [Decidable.not_not] at h3; unfold fieldsOk at h3; exact ⟨by omega, by omega, by omega⟩)
theorem right_at {f : List Ins} (h : right f = true) {i : Nat} {x : Ins} (hx : f[i]? = some x) : insErr x f.length = 0 := ((right_iff f).1 h).2.2.1 x (List.mem_of_getElem? hx)
theorem right_len {f : List Ins} (h : right f = true) : 0 < f.length ∧ f.length ≤ 200 := by have := (right_iff f).1 h; omega
theorem right_next {f : List Ins} (h : right f = true) {i : Nat} {x : Ins} (hx : f[i]? = some x) (h1 : x.op ≠ 16) (h2 : x.op ≠ 18) : i + 1 < f.length := by
  have hl := (right_iff f).1 h
  have hi := (List.getElem?_eq_some_iff.1 hx).1
  by_cases he : i + 1 < f.length
  · exact he
  · have : f.length - 1 = i := by omega
    have h3 : lastOp f = x.op := by unfold lastOp; rw [this, hx]
    omega
theorem right_to {f : List Ins} (h : right f = true) {i : Nat} {x : Ins} (hx : f[i]? = some x) (h1 : x.op = 16 ∨ x.op = 17) : 0 ≤ x.to ∧ x.to < f.length := insErr_range (right_at h hx) h1
end Go.Abs
