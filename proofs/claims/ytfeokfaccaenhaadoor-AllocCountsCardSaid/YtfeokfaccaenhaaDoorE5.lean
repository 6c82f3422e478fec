/- Contracts: the references' Check, Right, Same of layer 4; has, may, jumps. -/
import Derived.Test.YtfeokfaccaenhaaDoorE4
set_option linter.unusedVariables false
set_option linter.unusedSimpArgs false
namespace Go.Abs
open Go.Proofs
set_option maxRecDepth 100000
set_option maxHeartbeats 1000000
-- joinery/joineryref04.Check
def c76 : C := .seq (.reg none [0] [⟨some 2, none, .mv (.const (.int .i64 0))⟩, ⟨some 3, none, .mv (.const (.int .i64 0))⟩]) (.seq (.seq (.reg none [0, 9] [⟨some 7, none, .mv (.tmp 0)⟩, ⟨some 8, none, .len (.tmp 7)⟩, ⟨some 9, none, .bin .gtr (.tmp 8) (.const (.int .i64 200))⟩]) (.cond (.tmp 9) (.seq (.reg none [2, 3] [⟨some 2, none, .mv (.const (.int .i64 0))⟩, ⟨some 3, none, .mv (.const (.int .i64 3))⟩]) (.ret)) (.skip))) (.seq (.seq (.reg none [0, 12] [⟨some 10, none, .mv (.tmp 0)⟩, ⟨some 11, none, .len (.tmp 10)⟩, ⟨some 12, none, .bin .eql (.tmp 11) (.const (.int .i64 0))⟩]) (.cond (.tmp 12) (.seq (.reg none [2, 3] [⟨some 2, none, .mv (.const (.int .i64 0))⟩, ⟨some 3, none, .mv (.const (.int .i64 5))⟩]) (.ret)) (.skip))) (.seq (.seq (.reg none [0, 4] [⟨some 4, none, .mv (.const (.int .i64 0))⟩]) (.block 0 (.loop [0, 4] (.seq (.seq (.reg none [0, 4, 16] [⟨some 13, none, .mv (.tmp 4)⟩, ⟨some 14, none, .mv (.tmp 0)⟩, ⟨some 15, none, .len (.tmp 14)⟩, ⟨some 16, none, .bin .lss (.tmp 13) (.tmp 15)⟩]) (.cond (.tmp 16) (.skip) (.exit 0))) (.seq (.block 1 (.seq (.reg none [0, 4, 5] [⟨some 19, none, .mv (.tmp 0)⟩, ⟨some 20, none, .mv (.tmp 4)⟩, ⟨some 21, none, .ia 6 (.tmp 19) (.tmp 20)⟩, ⟨some 22, none, .ld (some 6) (.tmp 21)⟩, ⟨some 23, none, .mv (.tmp 0)⟩, ⟨some 24, none, .len (.tmp 23)⟩, ⟨some 25, none, .call 55 [.tmp 22, .tmp 24]⟩, ⟨some 5, none, .mv (.tmp 25)⟩]) (.seq (.reg none [0, 4, 5, 27] [⟨some 26, none, .mv (.tmp 5)⟩, ⟨some 27, none, .bin .neq (.tmp 26) (.const (.int .i64 0))⟩]) (.cond (.tmp 27) (.seq (.reg none [2, 3] [⟨some 28, none, .mv (.tmp 4)⟩, ⟨some 29, none, .mv (.tmp 5)⟩, ⟨some 2, none, .mv (.tmp 28)⟩, ⟨some 3, none, .mv (.tmp 29)⟩]) (.ret)) (.skip))))) (.reg none [0, 4] [⟨some 17, none, .mv (.tmp 4)⟩, ⟨some 18, none, .bin .add (.tmp 17) (.const (.int .i64 1))⟩, ⟨some 4, none, .mv (.tmp 18)⟩])))))) (.seq (.reg none [0, 6] [⟨some 30, none, .mv (.tmp 0)⟩, ⟨some 31, none, .mv (.tmp 0)⟩, ⟨some 32, none, .len (.tmp 31)⟩, ⟨some 33, none, .bin .sub (.tmp 32) (.const (.int .i64 1))⟩, ⟨some 34, none, .ia 6 (.tmp 30) (.tmp 33)⟩, ⟨some 35, none, .fa 0 (.tmp 34)⟩, ⟨some 36, none, .ld none (.tmp 35)⟩, ⟨some 6, none, .mv (.tmp 36)⟩]) (.seq (.seq (.reg none [0, 42] [⟨some 37, none, .mv (.tmp 6)⟩, ⟨some 38, none, .bin .eql (.tmp 37) (.const (.int .i64 16))⟩, ⟨some 39, none, .mv (.tmp 38)⟩, ⟨some 40, some (39, false), .mv (.tmp 6)⟩, ⟨some 41, some (39, false), .bin .eql (.tmp 40) (.const (.int .i64 18))⟩, ⟨some 42, none, .pick (.tmp 39) (.const (.bool true)) (.tmp 41)⟩]) (.cond (.tmp 42) (.seq (.reg none [2, 3] [⟨some 2, none, .mv (.const (.int .i64 0))⟩, ⟨some 3, none, .mv (.const (.int .i64 0))⟩]) (.ret)) (.skip))) (.seq (.reg none [2, 3] [⟨some 43, none, .mv (.tmp 0)⟩, ⟨some 44, none, .len (.tmp 43)⟩, ⟨some 45, none, .bin .sub (.tmp 44) (.const (.int .i64 1))⟩, ⟨some 2, none, .mv (.tmp 45)⟩, ⟨some 3, none, .mv (.const (.int .i64 5))⟩]) (.ret)))))))
theorem ok76 : tabOk Tryd.prog 76 c76 [.tmp 2, .tmp 3] 1 = true := by kernel_rfl
-- joinery/joineryref04.Right
def c37 : C := .seq (.reg none [0] [⟨some 2, none, .mv (.const (.bool false))⟩]) (.seq (.reg none [4] [⟨some 6, none, .mv (.tmp 0)⟩, ⟨some 7, none, .call 76 [.tmp 6]⟩, ⟨some 5, none, .mv (.tmp 7)⟩, ⟨some 8, none, .ext (.tmp 5) 0⟩, ⟨some 9, none, .ext (.tmp 5) 1⟩, ⟨some 3, none, .mv (.tmp 8)⟩, ⟨some 4, none, .mv (.tmp 9)⟩]) (.seq (.reg none [2] [⟨some 10, none, .mv (.tmp 4)⟩, ⟨some 11, none, .bin .eql (.tmp 10) (.const (.int .i64 0))⟩, ⟨some 2, none, .mv (.tmp 11)⟩]) (.ret)))
theorem ok37 : tabOk Tryd.prog 37 c37 [.tmp 2] 1 = true := by kernel_rfl
-- joinery/joineryref04.Same
def c25 : C := .seq (.reg none [0, 1] [⟨some 4, none, .mv (.const (.bool false))⟩]) (.seq (.seq (.reg none [0, 1, 10] [⟨some 6, none, .mv (.tmp 0)⟩, ⟨some 7, none, .len (.tmp 6)⟩, ⟨some 8, none, .mv (.tmp 1)⟩, ⟨some 9, none, .len (.tmp 8)⟩, ⟨some 10, none, .bin .neq (.tmp 7) (.tmp 9)⟩]) (.cond (.tmp 10) (.seq (.reg none [4] [⟨some 4, none, .mv (.const (.bool false))⟩]) (.ret)) (.skip))) (.seq (.seq (.reg none [0, 1, 5] [⟨some 5, none, .mv (.const (.int .i64 0))⟩]) (.block 0 (.loop [0, 1, 5] (.seq (.seq (.reg none [0, 1, 5, 14] [⟨some 11, none, .mv (.tmp 5)⟩, ⟨some 12, none, .mv (.tmp 0)⟩, ⟨some 13, none, .len (.tmp 12)⟩, ⟨some 14, none, .bin .lss (.tmp 11) (.tmp 13)⟩]) (.cond (.tmp 14) (.skip) (.exit 0))) (.seq (.block 1 (.seq (.reg (some [[], [0], [], [], [0, 1, 2, 3], [0, 1, 2, 3, 4], [0, 1, 2, 3], [0, 1, 2, 3], []]) [0, 1, 5, 25] [⟨some 17, none, .mv (.tmp 0)⟩, ⟨some 18, none, .mv (.tmp 5)⟩, ⟨some 19, none, .ia 6 (.tmp 17) (.tmp 18)⟩, ⟨some 20, none, .ld (some 6) (.tmp 19)⟩, ⟨some 21, none, .mv (.tmp 1)⟩, ⟨some 22, none, .mv (.tmp 5)⟩, ⟨some 23, none, .ia 6 (.tmp 21) (.tmp 22)⟩, ⟨some 24, none, .ld (some 6) (.tmp 23)⟩, ⟨some 25, none, .eqs 6 33 true (.tmp 20) (.tmp 24)⟩]) (.cond (.tmp 25) (.seq (.reg none [4] [⟨some 4, none, .mv (.const (.bool false))⟩]) (.ret)) (.skip)))) (.reg none [0, 1, 5] [⟨some 15, none, .mv (.tmp 5)⟩, ⟨some 16, none, .bin .add (.tmp 15) (.const (.int .i64 1))⟩, ⟨some 5, none, .mv (.tmp 16)⟩])))))) (.seq (.reg none [4] [⟨some 4, none, .mv (.const (.bool true))⟩]) (.ret))))
theorem ok25 : tabOk Tryd.prog 25 c25 [.tmp 4] 2 = true := by kernel_rfl
-- joinery/joineryref23.has
def c54 : C := .seq (.reg none [0, 1] [⟨some 4, none, .mv (.const (.bool false))⟩]) (.seq (.reg none [4] [⟨some 5, none, .mv (.tmp 0)⟩, ⟨some 6, none, .call 37 [.tmp 5]⟩, ⟨some 7, none, .mv (.tmp 6)⟩, ⟨some 8, some (7, true), .mv (.tmp 1)⟩, ⟨some 9, some (7, true), .bin .geq (.tmp 8) (.const (.int .i64 0))⟩, ⟨some 10, none, .pick (.tmp 7) (.tmp 9) (.const (.bool false))⟩, ⟨some 11, none, .mv (.tmp 10)⟩, ⟨some 12, some (11, true), .mv (.tmp 1)⟩, ⟨some 13, some (11, true), .mv (.tmp 0)⟩, ⟨some 14, some (11, true), .len (.tmp 13)⟩, ⟨some 15, some (11, true), .bin .lss (.tmp 12) (.tmp 14)⟩, ⟨some 16, none, .pick (.tmp 11) (.tmp 15) (.const (.bool false))⟩, ⟨some 4, none, .mv (.tmp 16)⟩]) (.ret))
theorem ok54 : tabOk Tryd.prog 54 c54 [.tmp 4] 2 = true := by kernel_rfl
-- joinery/alloc.may
def c50 : C := .seq (.reg none [0, 1] [⟨some 4, none, .mv (.const (.bool false))⟩]) (.seq (.reg none [4] [⟨some 5, none, .mv (.tmp 0)⟩, ⟨some 6, none, .call 26 [.tmp 5]⟩, ⟨some 7, none, .mv (.tmp 6)⟩, ⟨some 8, some (7, true), .mv (.tmp 1)⟩, ⟨some 9, some (7, true), .bin .geq (.tmp 8) (.const (.int .i64 0))⟩, ⟨some 10, none, .pick (.tmp 7) (.tmp 9) (.const (.bool false))⟩, ⟨some 11, none, .mv (.tmp 10)⟩, ⟨some 12, some (11, true), .mv (.tmp 1)⟩, ⟨some 13, some (11, true), .mv (.tmp 0)⟩, ⟨some 14, some (11, true), .len (.tmp 13)⟩, ⟨some 15, some (11, true), .bin .lss (.tmp 12) (.tmp 14)⟩, ⟨some 16, none, .pick (.tmp 11) (.tmp 15) (.const (.bool false))⟩, ⟨some 4, none, .mv (.tmp 16)⟩]) (.ret))
theorem ok50 : tabOk Tryd.prog 50 c50 [.tmp 4] 2 = true := by kernel_rfl
-- joinery/alloc.jumps
def c51 : C := .seq (.reg none [1] [⟨some 1, none, .box 33 6 (.tmp 0)⟩, ⟨some 2, none, .mv (.const (.bool false))⟩]) (.seq (.reg none [2] [⟨some 3, none, .fa 0 (.tmp 1)⟩, ⟨some 4, none, .ld none (.tmp 3)⟩, ⟨some 5, none, .bin .geq (.tmp 4) (.const (.int .i64 16))⟩, ⟨some 2, none, .mv (.tmp 5)⟩]) (.ret))
theorem ok51 : tabOk Tryd.prog 51 c51 [.tmp 2] 1 = true := by kernel_rfl
theorem w64i {i k : Nat} (h : i < k) (hk : k ≤ 1000000000000) : IntKind.i64.wrap ((i : Int) + 1) = ((i + 1 : Nat) : Int) := by
  rw [w64 (by omega) (by omega)]; rfl
theorem fn76 (f : List Ins) : FnOK Tryd.prog gidD 76 3 [.sl 2 0 f.length] (hl [(2, .ro (insCells f))]) (.tup [vi (asmChk f).1, vi (asmChk f).2]) (hl []) 3 := by
  refine FnOK.of ok76 (Nat.le_refl _) (Nat.le_refl _) fun M => ?_
  have hlen := insCells_len f
  conv => whnf
  refine brT_intro (fun h1 => ?_) (fun h1 => ?_) <;> conv => whnf
  · exact retX [.old 0, .old 1, .old 2] (.inl rfl) rfl (by unfold asmChk; rw [if_pos (by have := of_decide_eq_true h1; omega)]; rfl) rfl trivial
  refine brT_intro (fun h2 => ?_) (fun h2 => ?_) <;> conv => whnf
  · exact retX [.old 0, .old 1, .old 2] (.inl rfl) rfl (by unfold asmChk; rw [if_neg (by have := of_decide_eq_false h1; omega), if_pos (by have := of_decide_eq_true h2; omega)]; rfl) rfl trivial
  have h1 := of_decide_eq_false h1
  have h2 := of_decide_eq_false h2
  refine LoopS.ind (S := Nat) (fun i => [(0, .sl 2 0 f.length), (4, vi i)]) (fun _ => hl [(2, .ro (insCells f))]) 3
    (fun i => i ≤ f.length ∧ firstBad f.length (f.drop i) i = firstBad f.length f 0) (fun i => f.length - i) ?_ 0 ⟨Nat.zero_le _, rfl⟩
  intro i ⟨hi, hb⟩ ih
  refine LoopS.round rfl ?_
  conv => whnf
  by_cases hlt : i < f.length
  · refine brT_true (decide_eq_true (by omega)) ?_
    obtain ⟨x, hx⟩ : ∃ x, f[i]? = some x := ⟨_, List.getElem?_eq_getElem hlt⟩
    conv => whnf
    repeat (refine cndP_intro (by omega) ?_; conv => whnf)
    rw [insAt hx]
    conv => whnf
    refine callX (fn55 x f.length) [.old 0, .old 1] rfl rfl rfl rfl trivial ?_
    conv => whnf
    have hd := drop_cons hx
    refine brT_intro (fun h => ?_) (fun h => ?_) <;> conv => whnf
    · refine retX [.old 0, .old 1, .old 2] (.inl rfl) rfl ?_ rfl trivial
      have h : insErr x f.length ≠ 0 := of_decide_eq_true h
      rw [hd, firstBad, if_neg h] at hb
      have : asmChk f = ((i : Int), insErr x f.length) := by unfold asmChk; rw [if_neg (by omega), if_neg (by omega), ← hb]
      rw [this]
      rfl
    · have h : insErr x f.length = 0 := by simpa using h
      rw [hd, firstBad, if_pos h] at hb
      refine LoopS.ren [.old 0, .old 1, .old 2] (ih (i + 1) ⟨hlt, hb⟩ (by omega)) rfl (by decide) ⟨rfl, ?_, trivial⟩ ⟨rfl, trivial⟩
      exact congrArg (fun z => some (vi z)) (w64i hlt (by omega)).symm
  · refine brT_false (decide_eq_false (by omega)) ?_
    have hi : i = f.length := by omega
    subst hi
    clear ih
    rw [List.drop_length] at hb
    obtain ⟨x, hx⟩ : ∃ x, f[f.length - 1]? = some x := ⟨_, List.getElem?_eq_getElem (by omega)⟩
    have hw : IntKind.i64.wrap ((f.length : Int) - 1) = ((f.length - 1 : Nat) : Int) := by rw [w64 (by omega) (by omega)]; omega
    conv => whnf
    rw [hw]
    repeat (refine cndP_intro (by omega) ?_; conv => whnf)
    rw [insCell hx 0 (by decide)]
    conv => whnf
    have hl : lastOp f = x.op := by unfold lastOp; rw [hx]
    have hA : asmChk f = if lastOp f = 16 ∨ lastOp f = 18 then (0, 0) else (((f.length - 1 : Nat) : Int), 5) := by unfold asmChk; rw [if_neg (by omega), if_neg (by omega), ← hb]; rfl
    repeat' (refine brT_intro (fun h => ?_) (fun h => ?_) <;> conv => whnf)
    all_goals
      refine retX [.old 0, .old 1, .old 2] (.inl rfl) rfl ?_ rfl trivial
      rw [hA, hl]
      simp_all
      try rfl
theorem fn37 (f : List Ins) : FnOK Tryd.prog gidD 37 3 [.sl 2 0 f.length] (hl [(2, .ro (insCells f))]) (vb (right f)) (hl []) 3 := by
  refine FnOK.of ok37 (Nat.le_refl _) (Nat.le_refl _) fun M => ?_
  conv => whnf
  refine callX (fn76 f) [.old 0, .old 1, .old 2] rfl rfl rfl rfl ⟨rfl, trivial⟩ ?_
  conv => whnf
  exact retX [.old 0, .old 1, .old 2] (.inl rfl) rfl rfl rfl trivial
def hasP (f : List Ins) (at_ : Int) : Bool := right f && (decide (0 ≤ at_) && decide (at_ < f.length))
theorem fn54 (f : List Ins) (at_ : Int) : FnOK Tryd.prog gidD 54 3 [.sl 2 0 f.length, vi at_] (hl [(2, .ro (insCells f))]) (vb (hasP f at_)) (hl []) 3 := by
  refine FnOK.of ok54 (Nat.le_refl _) (Nat.le_refl _) fun M => ?_
  conv => whnf
  refine callX (fn37 f) [.old 0, .old 1, .old 2] rfl rfl rfl rfl ⟨rfl, trivial⟩ ?_
  conv => whnf
  repeat' (refine brT_intro (fun h => ?_) (fun h => ?_) <;> conv => whnf)
  all_goals exact retX [.old 0, .old 1, .old 2] (.inl rfl) rfl (congrArg (fun b => some (vb b)) (by simp_all [hasP] <;> omega)) rfl trivial
theorem fn50 (f : List Ins) (at_ : Int) : FnOK Tryd.prog gidD 50 3 [.sl 2 0 f.length, vi at_] (hl [(0, .ro shapesV), (2, .ro (insCells f))]) (vb (hasP f at_)) (hl []) 3 := by
  refine FnOK.of ok50 (Nat.le_refl _) (Nat.le_refl _) fun M => ?_
  conv => whnf
  refine callX (fn26 f) [.old 0, .old 1, .old 2] rfl rfl rfl rfl ⟨rfl, rfl, trivial⟩ ?_
  conv => whnf
  repeat' (refine brT_intro (fun h => ?_) (fun h => ?_) <;> conv => whnf)
  all_goals exact retX [.old 0, .old 1, .old 2] (.inl rfl) rfl (congrArg (fun b => some (vb b)) (by simp_all [hasP] <;> omega)) rfl trivial
theorem fn51 (x : Ins) : FnOK Tryd.prog gidD 51 2 [x.v] (hl []) (vb (decide (x.op ≥ 16))) (hl []) 2 := by
  refine FnOK.of ok51 (Nat.le_refl _) (Nat.le_refl _) fun M => ?_
  conv => whnf
  exact retX [.old 0, .old 1] (.inl rfl) rfl rfl rfl trivial
theorem eqInts_ins (x y : Ins) : eqInts [(.i64, x.op), (.i64, x.d), (.i64, x.a), (.i64, x.b), (.i64, x.n), (.i64, x.to)] [(.i64, y.op), (.i64, y.d), (.i64, y.a), (.i64, y.b), (.i64, y.n), (.i64, y.to)] = decide (x = y) := by
  cases x; cases y
  simp [eqInts, Bool.eq_iff_iff]
theorem fn25 (f g : List Ins) (hf : f.length ≤ 1000000000) : FnOK Tryd.prog gidD 25 4 [.sl 2 0 f.length, .sl 3 0 g.length] (hl [(2, .ro (insCells f)), (3, .ro (insCells g))]) (vb (decide (f = g))) (hl []) 4 := by
  refine FnOK.of ok25 (Nat.le_refl _) (Nat.le_refl _) fun M => ?_
  have hlf := insCells_len f
  have hlg := insCells_len g
  conv => whnf
  refine brT_intro (fun h1 => ?_) (fun h1 => ?_) <;> conv => whnf
  · exact retX [.old 0, .old 1, .old 2, .old 3] (.inl rfl) rfl (congrArg (fun b => some (vb b)) (decide_eq_false (fun e => by subst e; simp at h1))) rfl trivial
  have h1 : (f.length : Int) = g.length := by simpa using h1
  refine LoopS.ind (S := Nat) (fun i => [(0, .sl 2 0 f.length), (1, .sl 3 0 g.length), (5, vi i)]) (fun _ => hl [(2, .ro (insCells f)), (3, .ro (insCells g))]) 4
    (fun i => i ≤ f.length ∧ f.take i = g.take i) (fun i => f.length - i) ?_ 0 ⟨Nat.zero_le _, rfl⟩
  intro i ⟨hi, hb⟩ ih
  refine LoopS.round rfl ?_
  conv => whnf
  by_cases hlt : i < f.length
  · refine brT_true (decide_eq_true (by omega)) ?_
    obtain ⟨x, hx⟩ : ∃ x, f[i]? = some x := ⟨_, List.getElem?_eq_getElem hlt⟩
    obtain ⟨y, hy⟩ : ∃ y, g[i]? = some y := ⟨_, List.getElem?_eq_getElem (by omega)⟩
    conv => whnf
    repeat (refine cndP_intro (by omega) ?_; conv => whnf)
    rw [insAt hx]
    conv => whnf
    repeat (refine cndP_intro (by omega) ?_; conv => whnf)
    rw [insAt hy]
    conv => whnf
    refine brT_intro (fun h => ?_) (fun h => ?_) <;> conv => whnf
    · rw [eqInts_ins] at h
      have hne : x ≠ y := by simpa using h
      exact retX [.old 0, .old 1, .old 2, .old 3] (.inl rfl) rfl (congrArg (fun b => some (vb b)) (decide_eq_false (fun e => by subst e; rw [hx] at hy; cases hy; exact hne rfl))) rfl trivial
    · rw [eqInts_ins] at h
      have he : x = y := by simpa using h
      subst he
      refine LoopS.ren [.old 0, .old 1, .old 2, .old 3] (ih (i + 1) ⟨hlt, by rw [List.take_add_one, List.take_add_one, hb, hx, hy]⟩ (by omega)) rfl (by decide) ⟨rfl, rfl, ?_, trivial⟩ ⟨rfl, rfl, trivial⟩
      exact congrArg (fun z => some (vi z)) (w64i hlt (by omega)).symm
  · refine brT_false (decide_eq_false (by omega)) ?_
    clear ih
    conv => whnf
    exact retX [.old 0, .old 1, .old 2, .old 3] (.inl rfl) rfl (congrArg (fun b => some (vb b)) (decide_eq_true (by rw [List.take_of_length_le (by omega), List.take_of_length_le (by omega)] at hb; exact hb))) rfl trivial
end Go.Abs
