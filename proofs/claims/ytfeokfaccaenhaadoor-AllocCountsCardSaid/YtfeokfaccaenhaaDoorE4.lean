/- Contracts of the references of layers 3 and 4: Check, Right, Same. -/
import Derived.Test.YtfeokfaccaenhaaDoorE3
set_option linter.unusedVariables false
set_option linter.unusedSimpArgs false
namespace Go.Abs
open Go.Proofs
set_option maxRecDepth 100000
set_option maxHeartbeats 4000000
-- joinery/joineryref03.place
def c112 : C := .seq (.reg none [0] [⟨some 2, none, .mv (.const (.bool false))⟩]) (.seq (.reg none [2] [⟨some 3, none, .mv (.tmp 0)⟩, ⟨some 4, none, .bin .geq (.tmp 3) (.const (.int .i64 0))⟩, ⟨some 5, none, .mv (.tmp 4)⟩, ⟨some 6, some (5, true), .mv (.tmp 0)⟩, ⟨some 7, some (5, true), .bin .lss (.tmp 6) (.const (.int .i64 24))⟩, ⟨some 8, none, .pick (.tmp 5) (.tmp 7) (.const (.bool false))⟩, ⟨some 2, none, .mv (.tmp 8)⟩]) (.ret))
theorem ok112 : tabOk Tryd.prog 112 c112 [.tmp 2] 1 = true := by kernel_rfl
-- joinery/joineryref03.reg
def c113 : C := .seq (.reg none [0] [⟨some 2, none, .mv (.const (.bool false))⟩]) (.seq (.reg none [2] [⟨some 3, none, .mv (.tmp 0)⟩, ⟨some 4, none, .bin .geq (.tmp 3) (.const (.int .i64 0))⟩, ⟨some 5, none, .mv (.tmp 4)⟩, ⟨some 6, some (5, true), .mv (.tmp 0)⟩, ⟨some 7, some (5, true), .bin .lss (.tmp 6) (.const (.int .i64 8))⟩, ⟨some 8, none, .pick (.tmp 5) (.tmp 7) (.const (.bool false))⟩, ⟨some 2, none, .mv (.tmp 8)⟩]) (.ret))
theorem ok113 : tabOk Tryd.prog 113 c113 [.tmp 2] 1 = true := by kernel_rfl
-- joinery/joineryref03.only
def c111 : C := .seq (.reg none [1, 2] [⟨some 1, none, .box 33 6 (.tmp 0)⟩, ⟨some 2, none, .new 33 [.int .i64 0, .int .i64 0, .int .i64 0, .int .i64 0, .int .i64 0, .int .i64 0]⟩]) (.seq (.reg none [1, 2, 3] [⟨some 4, none, .fa 0 (.tmp 1)⟩, ⟨some 5, none, .ld none (.tmp 4)⟩, ⟨some 6, none, .bld 33 [.int .i64 0, .int .i64 0, .int .i64 0, .int .i64 0, .int .i64 0, .int .i64 0] [(0, 0, 1, .tmp 5)]⟩, ⟨some 3, none, .new 33 [.int .i64 0, .int .i64 0, .int .i64 0, .int .i64 0, .int .i64 0, .int .i64 0]⟩, ⟨none, none, .st 6 (.tmp 3) (.tmp 6)⟩]) (.seq (.seq (.reg none [1, 2, 3, 14] [⟨some 7, none, .fa 0 (.tmp 1)⟩, ⟨some 8, none, .ld none (.tmp 7)⟩, ⟨some 9, none, .bin .eql (.tmp 8) (.const (.int .i64 1))⟩, ⟨some 10, none, .mv (.tmp 9)⟩, ⟨some 11, some (10, false), .fa 0 (.tmp 1)⟩, ⟨some 12, some (10, false), .ld none (.tmp 11)⟩, ⟨some 13, some (10, false), .bin .eql (.tmp 12) (.const (.int .i64 15))⟩, ⟨some 14, none, .pick (.tmp 10) (.const (.bool true)) (.tmp 13)⟩]) (.cond (.tmp 14) (.reg none [1, 2, 3] [⟨some 15, none, .fa 4 (.tmp 1)⟩, ⟨some 16, none, .ld none (.tmp 15)⟩, ⟨some 17, none, .fa 4 (.tmp 3)⟩, ⟨none, none, .st 1 (.tmp 17) (.tmp 16)⟩]) (.skip))) (.seq (.seq (.reg none [1, 2, 3, 25] [⟨some 18, none, .fa 0 (.tmp 1)⟩, ⟨some 19, none, .ld none (.tmp 18)⟩, ⟨some 20, none, .bin .eql (.tmp 19) (.const (.int .i64 16))⟩, ⟨some 21, none, .mv (.tmp 20)⟩, ⟨some 22, some (21, false), .fa 0 (.tmp 1)⟩, ⟨some 23, some (21, false), .ld none (.tmp 22)⟩, ⟨some 24, some (21, false), .bin .eql (.tmp 23) (.const (.int .i64 17))⟩, ⟨some 25, none, .pick (.tmp 21) (.const (.bool true)) (.tmp 24)⟩]) (.cond (.tmp 25) (.reg none [1, 2, 3] [⟨some 26, none, .fa 5 (.tmp 1)⟩, ⟨some 27, none, .ld none (.tmp 26)⟩, ⟨some 28, none, .fa 5 (.tmp 3)⟩, ⟨none, none, .st 1 (.tmp 28) (.tmp 27)⟩]) (.skip))) (.seq (.seq (.reg none [1, 2, 3, 36] [⟨some 29, none, .fa 0 (.tmp 1)⟩, ⟨some 30, none, .ld none (.tmp 29)⟩, ⟨some 31, none, .bin .leq (.tmp 30) (.const (.int .i64 13))⟩, ⟨some 32, none, .mv (.tmp 31)⟩, ⟨some 33, some (32, false), .fa 0 (.tmp 1)⟩, ⟨some 34, some (32, false), .ld none (.tmp 33)⟩, ⟨some 35, some (32, false), .bin .eql (.tmp 34) (.const (.int .i64 15))⟩, ⟨some 36, none, .pick (.tmp 32) (.const (.bool true)) (.tmp 35)⟩]) (.cond (.tmp 36) (.reg none [1, 2, 3] [⟨some 37, none, .fa 1 (.tmp 1)⟩, ⟨some 38, none, .ld none (.tmp 37)⟩, ⟨some 39, none, .fa 1 (.tmp 3)⟩, ⟨none, none, .st 1 (.tmp 39) (.tmp 38)⟩]) (.skip))) (.seq (.seq (.reg none [1, 2, 3, 47] [⟨some 40, none, .fa 0 (.tmp 1)⟩, ⟨some 41, none, .ld none (.tmp 40)⟩, ⟨some 42, none, .bin .neq (.tmp 41) (.const (.int .i64 1))⟩, ⟨some 43, none, .mv (.tmp 42)⟩, ⟨some 44, some (43, true), .fa 0 (.tmp 1)⟩, ⟨some 45, some (43, true), .ld none (.tmp 44)⟩, ⟨some 46, some (43, true), .bin .neq (.tmp 45) (.const (.int .i64 16))⟩, ⟨some 47, none, .pick (.tmp 43) (.tmp 46) (.const (.bool false))⟩]) (.cond (.tmp 47) (.reg none [1, 2, 3] [⟨some 48, none, .fa 2 (.tmp 1)⟩, ⟨some 49, none, .ld none (.tmp 48)⟩, ⟨some 50, none, .fa 2 (.tmp 3)⟩, ⟨none, none, .st 1 (.tmp 50) (.tmp 49)⟩]) (.skip))) (.seq (.seq (.reg none [1, 2, 3, 63] [⟨some 51, none, .fa 0 (.tmp 1)⟩, ⟨some 52, none, .ld none (.tmp 51)⟩, ⟨some 53, none, .bin .geq (.tmp 52) (.const (.int .i64 4))⟩, ⟨some 54, none, .mv (.tmp 53)⟩, ⟨some 55, some (54, true), .fa 0 (.tmp 1)⟩, ⟨some 56, some (54, true), .ld none (.tmp 55)⟩, ⟨some 57, some (54, true), .bin .leq (.tmp 56) (.const (.int .i64 12))⟩, ⟨some 58, none, .pick (.tmp 54) (.tmp 57) (.const (.bool false))⟩, ⟨some 59, none, .mv (.tmp 58)⟩, ⟨some 60, some (59, false), .fa 0 (.tmp 1)⟩, ⟨some 61, some (59, false), .ld none (.tmp 60)⟩, ⟨some 62, some (59, false), .bin .eql (.tmp 61) (.const (.int .i64 14))⟩, ⟨some 63, none, .pick (.tmp 59) (.const (.bool true)) (.tmp 62)⟩]) (.cond (.tmp 63) (.reg none [2, 3] [⟨some 64, none, .fa 3 (.tmp 1)⟩, ⟨some 65, none, .ld none (.tmp 64)⟩, ⟨some 66, none, .fa 3 (.tmp 3)⟩, ⟨none, none, .st 1 (.tmp 66) (.tmp 65)⟩]) (.skip))) (.seq (.reg none [2] [⟨some 67, none, .ld (some 6) (.tmp 3)⟩, ⟨none, none, .st 6 (.tmp 2) (.tmp 67)⟩]) (.ret))))))))
theorem ok111 : tabOk Tryd.prog 111 c111 [.cell 2 33 (some 6)] 1 = true := by kernel_rfl
-- joinery/joineryref03.Check
def c55 : C := .seq (.reg none [1, 2] [⟨some 2, none, .box 33 6 (.tmp 0)⟩, ⟨some 4, none, .mv (.const (.int .i64 0))⟩]) (.seq (.seq (.reg (some [[], [], [], [], [], [], [], [], [], [], [], [9, 10], [], [], [], [], [], [], [], [], [], [], [], [], [], [], [], [], []]) [1, 2, 33] [⟨some 5, none, .fa 0 (.tmp 2)⟩, ⟨some 6, none, .ld none (.tmp 5)⟩, ⟨some 7, none, .bin .lss (.tmp 6) (.const (.int .i64 1))⟩, ⟨some 8, none, .mv (.tmp 7)⟩, ⟨some 9, some (8, false), .fa 0 (.tmp 2)⟩, ⟨some 10, some (8, false), .ld none (.tmp 9)⟩, ⟨some 11, some (8, false), .bin .gtr (.tmp 10) (.const (.int .i64 18))⟩, ⟨some 12, none, .pick (.tmp 8) (.const (.bool true)) (.tmp 11)⟩, ⟨some 13, none, .mv (.tmp 12)⟩, ⟨some 14, some (13, false), .ld (some 6) (.tmp 2)⟩, ⟨some 15, some (13, false), .call 111 [.tmp 14]⟩, ⟨some 16, some (13, false), .ld (some 6) (.tmp 2)⟩, ⟨some 17, some (13, false), .eqs 6 33 true (.tmp 15) (.tmp 16)⟩, ⟨some 18, none, .pick (.tmp 13) (.const (.bool true)) (.tmp 17)⟩, ⟨some 19, none, .mv (.tmp 18)⟩, ⟨some 20, some (19, false), .fa 0 (.tmp 2)⟩, ⟨some 21, some (19, false), .ld none (.tmp 20)⟩, ⟨some 22, some (19, false), .bin .eql (.tmp 21) (.const (.int .i64 15))⟩, ⟨some 23, some (19, false), .mv (.tmp 22)⟩, ⟨some 24, some (23, true), .fa 4 (.tmp 2)⟩, ⟨some 25, some (23, true), .ld none (.tmp 24)⟩, ⟨some 26, some (23, true), .bin .lss (.tmp 25) (.const (.int .i64 0))⟩, ⟨some 27, some (23, true), .mv (.tmp 26)⟩, ⟨some 28, some (27, false), .fa 4 (.tmp 2)⟩, ⟨some 29, some (27, false), .ld none (.tmp 28)⟩, ⟨some 30, some (27, false), .bin .gtr (.tmp 29) (.const (.int .i64 99))⟩, ⟨some 31, some (23, true), .pick (.tmp 27) (.const (.bool true)) (.tmp 30)⟩, ⟨some 32, some (19, false), .pick (.tmp 23) (.tmp 31) (.const (.bool false))⟩, ⟨some 33, none, .pick (.tmp 19) (.const (.bool true)) (.tmp 32)⟩]) (.cond (.tmp 33) (.seq (.reg none [4] [⟨some 4, none, .mv (.const (.int .i64 1))⟩]) (.ret)) (.skip))) (.seq (.seq (.reg none [1, 2, 36] [⟨some 34, none, .fa 0 (.tmp 2)⟩, ⟨some 35, none, .ld none (.tmp 34)⟩, ⟨some 36, none, .bin .leq (.tmp 35) (.const (.int .i64 3))⟩]) (.cond (.tmp 36) (.seq (.reg none [1, 2, 46] [⟨some 37, none, .fa 1 (.tmp 2)⟩, ⟨some 38, none, .ld none (.tmp 37)⟩, ⟨some 39, none, .call 112 [.tmp 38]⟩, ⟨some 40, none, .un .not (.tmp 39)⟩, ⟨some 41, none, .mv (.tmp 40)⟩, ⟨some 42, some (41, false), .fa 2 (.tmp 2)⟩, ⟨some 43, some (41, false), .ld none (.tmp 42)⟩, ⟨some 44, some (41, false), .call 112 [.tmp 43]⟩, ⟨some 45, some (41, false), .un .not (.tmp 44)⟩, ⟨some 46, none, .pick (.tmp 41) (.const (.bool true)) (.tmp 45)⟩]) (.cond (.tmp 46) (.seq (.reg none [4] [⟨some 4, none, .mv (.const (.int .i64 6))⟩]) (.ret)) (.skip))) (.seq (.reg none [1, 2, 62] [⟨some 47, none, .fa 1 (.tmp 2)⟩, ⟨some 48, none, .ld none (.tmp 47)⟩, ⟨some 49, none, .call 113 [.tmp 48]⟩, ⟨some 50, none, .un .not (.tmp 49)⟩, ⟨some 51, none, .mv (.tmp 50)⟩, ⟨some 52, some (51, false), .fa 2 (.tmp 2)⟩, ⟨some 53, some (51, false), .ld none (.tmp 52)⟩, ⟨some 54, some (51, false), .call 113 [.tmp 53]⟩, ⟨some 55, some (51, false), .un .not (.tmp 54)⟩, ⟨some 56, none, .pick (.tmp 51) (.const (.bool true)) (.tmp 55)⟩, ⟨some 57, none, .mv (.tmp 56)⟩, ⟨some 58, some (57, false), .fa 3 (.tmp 2)⟩, ⟨some 59, some (57, false), .ld none (.tmp 58)⟩, ⟨some 60, some (57, false), .call 113 [.tmp 59]⟩, ⟨some 61, some (57, false), .un .not (.tmp 60)⟩, ⟨some 62, none, .pick (.tmp 57) (.const (.bool true)) (.tmp 61)⟩]) (.cond (.tmp 62) (.seq (.reg none [4] [⟨some 4, none, .mv (.const (.int .i64 6))⟩]) (.ret)) (.skip))))) (.seq (.seq (.reg none [81] [⟨some 63, none, .fa 0 (.tmp 2)⟩, ⟨some 64, none, .ld none (.tmp 63)⟩, ⟨some 65, none, .bin .eql (.tmp 64) (.const (.int .i64 16))⟩, ⟨some 66, none, .mv (.tmp 65)⟩, ⟨some 67, some (66, false), .fa 0 (.tmp 2)⟩, ⟨some 68, some (66, false), .ld none (.tmp 67)⟩, ⟨some 69, some (66, false), .bin .eql (.tmp 68) (.const (.int .i64 17))⟩, ⟨some 70, none, .pick (.tmp 66) (.const (.bool true)) (.tmp 69)⟩, ⟨some 71, none, .mv (.tmp 70)⟩, ⟨some 72, some (71, true), .fa 5 (.tmp 2)⟩, ⟨some 73, some (71, true), .ld none (.tmp 72)⟩, ⟨some 74, some (71, true), .bin .lss (.tmp 73) (.const (.int .i64 0))⟩, ⟨some 75, some (71, true), .mv (.tmp 74)⟩, ⟨some 76, some (75, false), .fa 5 (.tmp 2)⟩, ⟨some 77, some (75, false), .ld none (.tmp 76)⟩, ⟨some 78, some (75, false), .mv (.tmp 1)⟩, ⟨some 79, some (75, false), .bin .geq (.tmp 77) (.tmp 78)⟩, ⟨some 80, some (71, true), .pick (.tmp 75) (.const (.bool true)) (.tmp 79)⟩, ⟨some 81, none, .pick (.tmp 71) (.tmp 80) (.const (.bool false))⟩]) (.cond (.tmp 81) (.seq (.reg none [4] [⟨some 4, none, .mv (.const (.int .i64 4))⟩]) (.ret)) (.skip))) (.seq (.reg none [4] [⟨some 4, none, .mv (.const (.int .i64 0))⟩]) (.ret)))))
theorem ok55 : tabOk Tryd.prog 55 c55 [.tmp 4] 2 = true := by kernel_rfl
theorem fn113 (l : Int) : FnOK Tryd.prog gidD 113 2 [vi l] (hl []) (vb (isReg l)) (hl []) 2 := by
  refine FnOK.of ok113 (Nat.le_refl _) (Nat.le_refl _) fun M => ?_
  conv => whnf
  repeat' first
    | exact retX [.old 0, .old 1] (.inl rfl) rfl (congrArg some (congrArg (fun b => V.val (Value.bool b)) (by simp_all [isReg] <;> omega))) rfl trivial
    | (refine brT_intro (fun h => ?_) (fun h => ?_) <;> conv => whnf)
theorem fn112 (l : Int) : FnOK Tryd.prog gidD 112 2 [vi l] (hl []) (vb (isLoc l)) (hl []) 2 := by
  refine FnOK.of ok112 (Nat.le_refl _) (Nat.le_refl _) fun M => ?_
  conv => whnf
  repeat' first
    | exact retX [.old 0, .old 1] (.inl rfl) rfl (congrArg some (congrArg (fun b => V.val (Value.bool b)) (by simp_all [isLoc] <;> omega))) rfl trivial
    | (refine brT_intro (fun h => ?_) (fun h => ?_) <;> conv => whnf)
def onlyI (op : Int) (x : Ins) : Ins := ⟨x.op, if op ≤ 13 ∨ op = 15 then x.d else 0, if op ≠ 1 ∧ op ≠ 16 then x.a else 0, if (4 ≤ op ∧ op ≤ 12) ∨ op = 14 then x.b else 0, if op = 1 ∨ op = 15 then x.n else 0, if op = 16 ∨ op = 17 then x.to else 0⟩
theorem fn111 (x : Ins) {op : Int} (ho : x.op = op) (h1 : 1 ≤ op) (h2 : op ≤ 18) : FnOK Tryd.prog gidD 111 2 [x.v] (hl []) (onlyI op x).v (hl []) 2 := by
  refine FnOK.of ok111 (Nat.le_refl _) (Nat.le_refl _) fun M => ?_
  obtain ⟨op', d, a, b, m, to⟩ := x
  simp only at ho
  subst ho
  rcases op_cases op' with h | h | rfl | rfl | rfl | rfl | rfl | rfl | rfl | rfl | rfl | rfl | rfl | rfl | rfl | rfl | rfl | rfl | rfl | rfl
  · omega
  · omega
  all_goals
    conv => whnf
    exact retK [.old 0, .old 1] (.inl rfl) (by kernel_rfl) (by kernel_rfl) rfl trivial
theorem fn55 (x : Ins) (n : Int) : FnOK Tryd.prog gidD 55 2 [x.v, vi n] (hl []) (vi (insErr x n)) (hl []) 2 := by
  refine FnOK.of ok55 (Nat.le_refl _) (Nat.le_refl _) fun M => ?_
  obtain ⟨op, d, a, b, m, to⟩ := x
  have ho := fun h1 h2 => fn111 ⟨op, d, a, b, m, to⟩ (op := op) rfl h1 h2
  rcases op_cases op with h | h | rfl | rfl | rfl | rfl | rfl | rfl | rfl | rfl | rfl | rfl | rfl | rfl | rfl | rfl | rfl | rfl | rfl | rfl
  · conv => whnf
    refine brT_true (decide_eq_true h) ?_
    conv => whnf
    exact retX [.old 0, .old 1] (.inl rfl) rfl (congrArg some (congrArg (fun z => V.val (i64 z)) (by unfold insErr; rw [if_pos (by simp; omega)]))) rfl trivial
  · conv => whnf
    refine brT_false (decide_eq_false (by dsimp only; omega)) ?_
    conv => whnf
    refine brT_true (decide_eq_true h) ?_
    conv => whnf
    exact retX [.old 0, .old 1] (.inl rfl) rfl (congrArg some (congrArg (fun z => V.val (i64 z)) (by unfold insErr; rw [if_pos (by simp; omega)]))) rfl trivial
  all_goals
    conv => whnf
    refine callX (ho (by decide) (by decide)) [.old 0, .old 1] rfl rfl rfl rfl trivial ?_
    conv => whnf
    repeat' first
      | (refine brT_intro (fun h => ?_) (fun h => ?_) <;> conv => whnf)
      | (refine callX (fn113 _) [.old 0, .old 1] rfl rfl rfl rfl trivial ?_; conv => whnf)
      | (refine callX (fn112 _) [.old 0, .old 1] rfl rfl rfl rfl trivial ?_; conv => whnf)
    all_goals
      clear ho
      exact retX [.old 0, .old 1] (.inl rfl) rfl (congrArg some (congrArg (fun z => V.val (i64 z)) (by simp_all [insErr, fieldsOk, eqInts, onlyI, isLoc, isReg] <;> omega))) rfl trivial
end Go.Abs
