/- Plain laws of what is put in. -/
import Derived.Test.YtfeokfaccaenhaaDoorE8
set_option linter.unusedVariables false
set_option linter.unusedSimpArgs false
namespace Go.Abs
theorem firstBad_none {n : Int} : ∀ {l : List Ins} {i : Nat}, firstBad n l i = none ↔ ∀ x ∈ l, insErr x n = 0
  | [], i => by simp [firstBad]
  | x :: l, i => by
    rw [firstBad]
    split
    · rename_i h; rw [firstBad_none]; simp [h]
    · rename_i h; simp [h]
theorem firstBad_some {n : Int} : ∀ {l : List Ins} {i j : Nat} {e : Int}, firstBad n l i = some (j, e) → e ≠ 0
  | [], i, j, e, h => by simp [firstBad] at h
  | x :: l, i, j, e, h => by
    rw [firstBad] at h
    split at h
    · exact firstBad_some h
    · rename_i hne; cases h; exact hne
theorem right_iff (f : List Ins) : right f = true ↔ (f.length ≤ 200 ∧ f.length ≠ 0 ∧ (∀ x ∈ f, insErr x f.length = 0) ∧ (lastOp f = 16 ∨ lastOp f = 18)) := by
  unfold right asmChk
  rw [decide_eq_true_eq]
  split
  · rename_i h; exact ⟨fun h => absurd h (by decide), fun h' => absurd h'.1 (by omega)⟩
  split
  · rename_i h1 h; exact ⟨fun h => absurd h (by decide), fun h' => absurd h h'.2.1⟩
  rename_i h1 h2
  split
  · rename_i i e he
    have h3 := firstBad_some he
    have h4 : ¬ ∀ x ∈ f, insErr x f.length = 0 := fun h => by rw [firstBad_none.2 h] at he; cases he
    simp only [h3, h4, false_and, and_false]
  · rename_i he
    have h4 := firstBad_none.1 he
    split
    · rename_i h5; exact ⟨fun _ => ⟨by omega, h2, h4, h5⟩, fun _ => rfl⟩
    · rename_i h5; simp [h5]
theorem insErr_to {x : Ins} {n : Int} (h : insErr x n = 0) (t : Int) (ht : x.op = 16 ∨ x.op = 17) {n' : Int} (h0 : 0 ≤ t) (h1 : t < n') : insErr { x with to := t } n' = 0 := by
  obtain ⟨op, d, a, b, m, to⟩ := x
  simp only at ht
  unfold insErr fieldsOk at h ⊢
  simp only at h ⊢
  rcases ht with rfl | rfl <;> simp at h ⊢ <;> (repeat' split at h) <;> simp_all <;> omega
theorem insErr_same {x : Ins} {n : Int} (h : insErr x n = 0) {n' : Int} (hn : ¬ (x.op = 16 ∨ x.op = 17) ∨ x.to < n') : insErr x n' = 0 := by
  unfold insErr at h ⊢
  split at h
  · exact absurd h (by decide)
  rename_i a1; rw [if_neg a1]
  split at h
  · exact absurd h (by decide)
  rename_i a2; rw [if_neg a2]
  split at h
  · exact absurd h (by decide)
  rename_i a3; rw [if_neg a3]
  split at h
  · rename_i a4; rw [if_pos a4]; exact h
  rename_i a4; rw [if_neg a4]
  split at h
  · exact absurd h (by decide)
  rename_i a5; rw [if_neg a5]
  split at h
  · exact absurd h (by decide)
  rename_i a6; rw [if_neg (by omega)]
theorem insErr_range {x : Ins} {n : Int} (h : insErr x n = 0) (ht : x.op = 16 ∨ x.op = 17) : 0 ≤ x.to ∧ x.to < n := by
  unfold insErr at h
  repeat' split at h
  all_goals first | (cases h; done) | omega
theorem lastOp_append {a b : List Ins} (h : b ≠ []) : lastOp (a ++ b) = lastOp b := by
  have hb : 0 < b.length := List.length_pos_iff.2 h
  unfold lastOp
  rw [List.length_append, List.getElem?_append_right (by omega), show a.length + b.length - 1 - a.length = b.length - 1 by omega]
theorem lastOp_drop {f : List Ins} {k : Nat} (h : k < f.length) : lastOp (f.drop k) = lastOp f := by
  unfold lastOp
  rw [List.length_drop, List.getElem?_drop, show k + (f.length - k - 1) = f.length - 1 by omega]
theorem lastOp_map {f : List Ins} {g : Ins → Ins} (h : ∀ x, (g x).op = x.op) : lastOp (f.map g) = lastOp f := by
  unfold lastOp
  rw [List.length_map, List.getElem?_map]
  cases f[f.length - 1]? <;> simp [h]
theorem shift_op (at_ m : Int) (x : Ins) : (shiftI at_ m x).op = x.op := by unfold shiftI; split <;> rfl
theorem put_right {f l : List Ins} {k : Nat} (hr : right f = true) (hk : k < f.length) (hl : okL l f.length = true) (hn : f.length + l.length ≤ 200) : right (putL f k l) = true := by
  rw [right_iff] at hr ⊢
  obtain ⟨h1, h2, h3, h4⟩ := hr
  have hlen : (putL f k l).length = f.length + l.length := by simp [putL]; omega
  have hsh : ∀ x ∈ f, insErr (shiftI k l.length x) (f.length + l.length : Nat) = 0 := by
    intro x hx
    have h := h3 x hx
    unfold shiftI
    split
    · rename_i hc
      have hr := insErr_range h hc.1
      rw [w64 (by omega) (by omega)]
      exact insErr_to h _ hc.1 (by omega) (by omega)
    · refine insErr_same h ?_
      by_cases hj : x.op = 16 ∨ x.op = 17
      · have hr := insErr_range h hj
        exact .inr (by omega)
      · exact .inl hj
  refine ⟨by omega, by omega, fun x hx => ?_, ?_⟩
  · rw [hlen]
    unfold putL at hx
    rcases List.mem_append.1 hx with hx | hx
    · rcases List.mem_append.1 hx with hx | hx
      · obtain ⟨y, hy, rfl⟩ := List.mem_map.1 hx
        exact hsh y (List.mem_of_mem_take hy)
      · have := List.all_eq_true.1 hl x hx
        simp only [decide_eq_true_eq] at this
        exact insErr_same this.2 (.inl (by omega))
    · obtain ⟨y, hy, rfl⟩ := List.mem_map.1 hx
      exact hsh y (List.mem_of_mem_drop hy)
  · have hne : (f.drop k).map (shiftI k l.length) ≠ [] := by
      intro e
      have := congrArg List.length e
      simp at this
      omega
    unfold putL
    rw [lastOp_append hne, lastOp_map (shift_op _ _), lastOp_drop hk]
    exact h4
theorem Put_right {f l : List Ins} {at_ : Int} (h : (PutE f at_ l).2 = 0) : right (PutE f at_ l).1 = true := by
  unfold PutE at h ⊢
  split at h
  · rename_i hh
    obtain ⟨k, rfl, hk, hr⟩ := hasP_nat hh
    rw [if_pos hh]
    split at h
    · rename_i ho
      rw [if_pos ho]
      unfold putE at h ⊢
      split at h
      · cases h
      · rename_i hn
        rw [if_neg hn]
        exact put_right hr hk ho (by omega)
    · cases h
  · cases h
end Go.Abs
