/- Contracts: asm.Check, asm.Right. -/
import Derived.Test.YtfeokfaccaenhaaDoorE2
set_option linter.unusedVariables false
set_option linter.unusedSimpArgs false
namespace Go.Abs
open Go.Proofs
-- joinery/asm.Check
def c57 : C := .seq (.reg none [0] [⟨some 2, none, .mv (.const (.int .i64 0))⟩, ⟨some 3, none, .mv (.const (.int .i64 0))⟩]) (.seq (.block 0 (.seq (.reg none [0, 8] [⟨some 9, none, .mv (.tmp 0)⟩, ⟨some 10, none, .len (.tmp 9)⟩, ⟨some 11, none, .bin .gtr (.tmp 10) (.const (.int .i64 200))⟩, ⟨some 8, none, .mv (.tmp 11)⟩]) (.cond (.tmp 8) (.seq (.reg none [2, 3] [⟨some 2, none, .mv (.const (.int .i64 0))⟩, ⟨some 3, none, .mv (.const (.int .i64 3))⟩]) (.ret)) (.seq (.reg none [0, 12] [⟨some 13, none, .mv (.tmp 0)⟩, ⟨some 14, none, .len (.tmp 13)⟩, ⟨some 15, none, .bin .eql (.tmp 14) (.const (.int .i64 0))⟩, ⟨some 12, none, .mv (.tmp 15)⟩]) (.cond (.tmp 12) (.seq (.reg none [2, 3] [⟨some 2, none, .mv (.const (.int .i64 0))⟩, ⟨some 3, none, .mv (.const (.int .i64 5))⟩]) (.ret)) (.skip)))))) (.seq (.seq (.reg none [0, 16, 17, 18] [⟨some 16, none, .mv (.tmp 0)⟩, ⟨some 17, none, .len (.tmp 16)⟩, ⟨some 18, none, .mv (.const (.int .i64 0))⟩]) (.block 1 (.loop [0, 16, 17, 18] (.seq (.reg none [0, 16, 17, 18, 19] [⟨some 19, none, .bin .lss (.tmp 18) (.tmp 17)⟩]) (.seq (.cond (.tmp 19) (.skip) (.exit 1)) (.seq (.block 2 (.seq (.reg none [0, 4, 5, 16, 17, 18] [⟨some 20, none, .mv (.tmp 18)⟩, ⟨some 21, none, .ia 6 (.tmp 16) (.tmp 18)⟩, ⟨some 22, none, .ld (some 6) (.tmp 21)⟩, ⟨some 5, none, .new 33 [.int .i64 0, .int .i64 0, .int .i64 0, .int .i64 0, .int .i64 0, .int .i64 0]⟩, ⟨some 4, none, .mv (.tmp 20)⟩, ⟨none, none, .st 6 (.tmp 5) (.tmp 22)⟩]) (.seq (.reg none [0, 4, 6, 16, 17, 18] [⟨some 23, none, .ld (some 6) (.tmp 5)⟩, ⟨some 24, none, .mv (.tmp 0)⟩, ⟨some 25, none, .len (.tmp 24)⟩, ⟨some 26, none, .call 52 [.tmp 23, .tmp 25]⟩, ⟨some 6, none, .mv (.tmp 26)⟩]) (.seq (.reg none [0, 4, 6, 16, 17, 18, 28] [⟨some 27, none, .mv (.tmp 6)⟩, ⟨some 28, none, .bin .neq (.tmp 27) (.const (.int .i64 0))⟩]) (.cond (.tmp 28) (.seq (.reg none [2, 3] [⟨some 29, none, .mv (.tmp 4)⟩, ⟨some 30, none, .mv (.tmp 6)⟩, ⟨some 2, none, .mv (.tmp 29)⟩, ⟨some 3, none, .mv (.tmp 30)⟩]) (.ret)) (.skip)))))) (.reg none [0, 16, 17, 18] [⟨some 31, none, .bin .add (.tmp 18) (.const (.int .i64 1))⟩, ⟨some 18, none, .mv (.tmp 31)⟩]))))))) (.seq (.seq (.reg none [0, 7] [⟨some 32, none, .mv (.tmp 0)⟩, ⟨some 33, none, .len (.tmp 32)⟩, ⟨some 34, none, .bin .sub (.tmp 33) (.const (.int .i64 1))⟩, ⟨some 7, none, .mv (.tmp 34)⟩]) (.seq (.reg none [7, 48] [⟨some 35, none, .mv (.tmp 0)⟩, ⟨some 36, none, .mv (.tmp 7)⟩, ⟨some 37, none, .ia 6 (.tmp 35) (.tmp 36)⟩, ⟨some 38, none, .fa 0 (.tmp 37)⟩, ⟨some 39, none, .ld none (.tmp 38)⟩, ⟨some 40, none, .bin .neq (.tmp 39) (.const (.int .i64 16))⟩, ⟨some 41, none, .mv (.tmp 40)⟩, ⟨some 42, some (41, true), .mv (.tmp 0)⟩, ⟨some 43, some (41, true), .mv (.tmp 7)⟩, ⟨some 44, some (41, true), .ia 6 (.tmp 42) (.tmp 43)⟩, ⟨some 45, some (41, true), .fa 0 (.tmp 44)⟩, ⟨some 46, some (41, true), .ld none (.tmp 45)⟩, ⟨some 47, some (41, true), .bin .neq (.tmp 46) (.const (.int .i64 18))⟩, ⟨some 48, none, .pick (.tmp 41) (.tmp 47) (.const (.bool false))⟩]) (.cond (.tmp 48) (.seq (.reg none [2, 3] [⟨some 49, none, .mv (.tmp 7)⟩, ⟨some 2, none, .mv (.tmp 49)⟩, ⟨some 3, none, .mv (.const (.int .i64 5))⟩]) (.ret)) (.skip)))) (.seq (.reg none [2, 3] [⟨some 2, none, .mv (.const (.int .i64 0))⟩, ⟨some 3, none, .mv (.const (.int .i64 0))⟩]) (.ret)))))
theorem ok57 : tabOk Tryd.prog 57 c57 [.tmp 2, .tmp 3] 1 = true := by kernel_rfl
-- joinery/asm.Right
def c26 : C := .seq (.reg none [0] [⟨some 2, none, .mv (.const (.bool false))⟩]) (.seq (.reg none [4] [⟨some 6, none, .mv (.tmp 0)⟩, ⟨some 7, none, .call 57 [.tmp 6]⟩, ⟨some 5, none, .mv (.tmp 7)⟩, ⟨some 8, none, .ext (.tmp 5) 0⟩, ⟨some 9, none, .ext (.tmp 5) 1⟩, ⟨some 3, none, .mv (.tmp 8)⟩, ⟨some 4, none, .mv (.tmp 9)⟩]) (.seq (.reg none [2] [⟨some 10, none, .mv (.tmp 4)⟩, ⟨some 11, none, .bin .eql (.tmp 10) (.const (.int .i64 0))⟩, ⟨some 2, none, .mv (.tmp 11)⟩]) (.ret)))
theorem ok26 : tabOk Tryd.prog 26 c26 [.tmp 2] 1 = true := by kernel_rfl


def firstBad (n : Int) : List Ins → Nat → Option (Nat × Int)
  | [], _ => none
  | x :: r, i => if insErr x n = 0 then firstBad n r (i + 1) else some (i, insErr x n)
def lastOp (f : List Ins) : Int := match f[f.length - 1]? with
  | some x => x.op
  | none => 0
/-- Whether a function is right, and where not. -/
def asmChk (f : List Ins) : Int × Int :=
  if f.length > 200 then (0, 3) else if f.length = 0 then (0, 5) else match firstBad f.length f 0 with
    | some (i, e) => (i, e)
    | none => if lastOp f = 16 ∨ lastOp f = 18 then (0, 0) else ((f.length - 1 : Nat), 5)
def right (f : List Ins) : Bool := decide ((asmChk f).2 = 0)
theorem insAt {f : List Ins} {i : Nat} {x : Ins} (h : f[i]? = some x) : List.take 6 (List.drop (0 + Int.toNat (i : Int) * 6) (insCells f)) = x.cells := by
  rw [Nat.zero_add, Int.toNat_natCast]; exact insCells_at h
theorem insCell {f : List Ins} {i : Nat} {x : Ins} (h : f[i]? = some x) (j : Nat) (hj : j < 6) : (insCells f)[0 + Int.toNat (i : Int) * 6 + j]? = x.cells[j]? := by
  have h1 := insCells_at h
  have h2 : (((insCells f).drop (i * 6)).take 6)[j]? = x.cells[j]? := by rw [h1]
  rw [List.getElem?_take_of_lt hj, List.getElem?_drop] at h2
  rw [Nat.zero_add, Int.toNat_natCast]
  exact h2
theorem drop_cons {α : Type} {l : List α} {i : Nat} {x : α} (h : l[i]? = some x) : l.drop i = x :: l.drop (i + 1) := by
  obtain ⟨hlt, rfl⟩ := List.getElem?_eq_some_iff.1 h
  exact List.drop_eq_getElem_cons hlt
theorem fn57 (f : List Ins) : FnOK Tryd.prog gidD 57 3 [.sl 2 0 f.length] (hl [(0, .ro shapesV), (2, .ro (insCells f))]) (.tup [vi (asmChk f).1, vi (asmChk f).2]) (hl []) 3 := by
  refine FnOK.of ok57 (Nat.le_refl _) (Nat.le_refl _) fun M => ?_
  have hlen := insCells_len f
  conv => whnf
  refine brT_intro (fun h1 => ?_) (fun h1 => ?_) <;> conv => whnf
  · exact retX [.old 0, .old 1, .old 2] (.inl rfl) rfl (by unfold asmChk; rw [if_pos (by have := of_decide_eq_true h1; omega)]; rfl) rfl trivial
  refine brT_intro (fun h2 => ?_) (fun h2 => ?_) <;> conv => whnf
  · exact retX [.old 0, .old 1, .old 2] (.inl rfl) rfl (by unfold asmChk; rw [if_neg (by have := of_decide_eq_false h1; omega), if_pos (by have := of_decide_eq_true h2; omega)]; rfl) rfl trivial
  have h1 := of_decide_eq_false h1
  have h2 := of_decide_eq_false h2
  refine LoopS.ind (S := Nat) (fun i => [(0, .sl 2 0 f.length), (16, .sl 2 0 f.length), (17, vi f.length), (18, vi i)]) (fun _ => hl [(0, .ro shapesV), (2, .ro (insCells f))]) 3
    (fun i => i ≤ f.length ∧ firstBad f.length (f.drop i) i = firstBad f.length f 0) (fun i => f.length - i) ?_ 0 ⟨Nat.zero_le _, rfl⟩
  intro i ⟨hi, hb⟩ ih
  refine LoopS.round rfl ?_
  conv => whnf
  by_cases hlt : i < f.length
  · refine brT_true (decide_eq_true (by omega)) ?_
    obtain ⟨x, hx⟩ : ∃ x, f[i]? = some x := ⟨_, List.getElem?_eq_getElem hlt⟩
    conv => whnf
    repeat (refine cndP_intro (by omega) ?_; conv => whnf)
    rw [insAt hx]
    conv => whnf
    refine callX (fn52 x f.length) [.old 0, .old 1] rfl rfl rfl rfl ⟨rfl, trivial⟩ ?_
    conv => whnf
    have hd := drop_cons hx
    refine brT_intro (fun h => ?_) (fun h => ?_) <;> conv => whnf
    · refine retX [.old 0, .old 1, .old 2] (.inl rfl) rfl ?_ rfl trivial
      have h : insErr x f.length ≠ 0 := of_decide_eq_true h
      rw [hd, firstBad, if_neg h] at hb
      have : asmChk f = ((i : Int), insErr x f.length) := by unfold asmChk; rw [if_neg (by omega), if_neg (by omega), ← hb]
      rw [this]
      rfl
    · have h : insErr x f.length = 0 := by simpa using h
      rw [hd, firstBad, if_pos h] at hb
      refine LoopS.ren [.old 0, .old 1, .old 2] (ih (i + 1) ⟨hlt, hb⟩ (by omega)) rfl (by decide) ⟨rfl, rfl, rfl, ?_, trivial⟩ ⟨rfl, rfl, trivial⟩
      exact congrArg (fun z => some (vi z)) (by rw [w64 (by omega) (by omega)]; rfl)
  · refine brT_false (decide_eq_false (by omega)) ?_
    have hi : i = f.length := by omega
    subst hi
    clear ih
    rw [List.drop_length] at hb
    obtain ⟨x, hx⟩ : ∃ x, f[f.length - 1]? = some x := ⟨_, List.getElem?_eq_getElem (by omega)⟩
    have hw : IntKind.i64.wrap ((f.length : Int) - 1) = ((f.length - 1 : Nat) : Int) := by rw [w64 (by omega) (by omega)]; omega
    conv => whnf
    rw [hw]
    repeat (refine cndP_intro (by omega) ?_; conv => whnf)
    rw [insCell hx 0 (by decide)]
    conv => whnf
    have hl : lastOp f = x.op := by unfold lastOp; rw [hx]
    have hA : asmChk f = if lastOp f = 16 ∨ lastOp f = 18 then (0, 0) else (((f.length - 1 : Nat) : Int), 5) := by unfold asmChk; rw [if_neg (by omega), if_neg (by omega), ← hb]; rfl
    refine brT_intro (fun h => ?_) (fun h => ?_) <;> conv => whnf
    · repeat (refine cndP_intro (by omega) ?_; conv => whnf)
      rw [insCell hx 0 (by decide)]
      conv => whnf
      repeat (refine brT_intro (fun h => ?_) (fun h => ?_) <;> conv => whnf)
      all_goals
        refine retX [.old 0, .old 1, .old 2] (.inl rfl) rfl ?_ rfl trivial
        rw [hA, hl]
        simp_all
        try rfl
    · repeat (refine brT_intro (fun h => ?_) (fun h => ?_) <;> conv => whnf)
      all_goals
        refine retX [.old 0, .old 1, .old 2] (.inl rfl) rfl ?_ rfl trivial
        rw [hA, hl]
        simp_all
        try rfl
theorem fn26 (f : List Ins) : FnOK Tryd.prog gidD 26 3 [.sl 2 0 f.length] (hl [(0, .ro shapesV), (2, .ro (insCells f))]) (vb (right f)) (hl []) 3 := by
  refine FnOK.of ok26 (Nat.le_refl _) (Nat.le_refl _) fun M => ?_
  conv => whnf
  refine callX (fn57 f) [.old 0, .old 1, .old 2] rfl rfl rfl rfl ⟨rfl, rfl, trivial⟩ ?_
  conv => whnf
  exact retX [.old 0, .old 1, .old 2] (.inl rfl) rfl rfl rfl trivial
end Go.Abs
