/- The contract of ins.Check. -/
import Derived.Test.YtfeokfaccaenhaaDoorE1
set_option linter.unusedVariables false
set_option linter.unusedSimpArgs false
namespace Go.Abs
open Go.Proofs
-- joinery/ins.Check
def c52 : C := .seq (.reg none [1, 2] [⟨some 2, none, .box 33 6 (.tmp 0)⟩, ⟨some 4, none, .mv (.const (.int .i64 0))⟩]) (.seq (.reg none [1, 2, 5, 6] [⟨some 11, none, .fa 0 (.tmp 2)⟩, ⟨some 12, none, .ld none (.tmp 11)⟩, ⟨some 13, none, .call 107 [.tmp 12]⟩, ⟨some 10, none, .mv (.tmp 13)⟩, ⟨some 14, none, .ext (.tmp 10) 0⟩, ⟨some 15, none, .ext (.tmp 10) 1⟩, ⟨some 5, none, .new 184 [.string ⟨#[]⟩, .string ⟨#[]⟩]⟩, ⟨none, none, .st 2 (.tmp 5) (.tmp 14)⟩, ⟨some 6, none, .mv (.tmp 15)⟩]) (.seq (.seq (.reg none [1, 2, 5, 39] [⟨some 16, none, .mv (.tmp 6)⟩, ⟨some 17, none, .un .not (.tmp 16)⟩, ⟨some 18, none, .mv (.tmp 17)⟩, ⟨some 19, some (18, false), .ld (some 6) (.tmp 2)⟩, ⟨some 20, some (18, false), .ld (some 2) (.tmp 5)⟩, ⟨some 21, some (18, false), .call 108 [.tmp 19, .tmp 20]⟩, ⟨some 22, some (18, false), .bld 33 [.int .i64 0, .int .i64 0, .int .i64 0, .int .i64 0, .int .i64 0, .int .i64 0] []⟩, ⟨some 23, some (18, false), .eqs 6 33 true (.tmp 21) (.tmp 22)⟩, ⟨some 24, none, .pick (.tmp 18) (.const (.bool true)) (.tmp 23)⟩, ⟨some 25, none, .mv (.tmp 24)⟩, ⟨some 26, some (25, false), .fa 0 (.tmp 2)⟩, ⟨some 27, some (25, false), .ld none (.tmp 26)⟩, ⟨some 28, some (25, false), .bin .eql (.tmp 27) (.const (.int .i64 15))⟩, ⟨some 29, some (25, false), .mv (.tmp 28)⟩, ⟨some 30, some (29, true), .fa 4 (.tmp 2)⟩, ⟨some 31, some (29, true), .ld none (.tmp 30)⟩, ⟨some 32, some (29, true), .bin .lss (.tmp 31) (.const (.int .i64 0))⟩, ⟨some 33, some (29, true), .mv (.tmp 32)⟩, ⟨some 34, some (33, false), .fa 4 (.tmp 2)⟩, ⟨some 35, some (33, false), .ld none (.tmp 34)⟩, ⟨some 36, some (33, false), .bin .gtr (.tmp 35) (.const (.int .i64 99))⟩, ⟨some 37, some (29, true), .pick (.tmp 33) (.const (.bool true)) (.tmp 36)⟩, ⟨some 38, some (25, false), .pick (.tmp 29) (.tmp 37) (.const (.bool false))⟩, ⟨some 39, none, .pick (.tmp 25) (.const (.bool true)) (.tmp 38)⟩]) (.cond (.tmp 39) (.seq (.reg none [4] [⟨some 4, none, .mv (.const (.int .i64 1))⟩]) (.ret)) (.skip))) (.seq (.reg none [1, 2, 5, 7] [⟨some 7, none, .mv (.const (.bool false))⟩]) (.seq (.seq (.reg none [1, 2, 7, 42] [⟨some 40, none, .fa 1 (.tmp 5)⟩, ⟨some 41, none, .ld none (.tmp 40)⟩, ⟨some 42, none, .rng (.tmp 41)⟩]) (.block 0 (.loop [1, 2, 7, 42] (.seq (.reg none [1, 2, 7, 42, 43, 44] [⟨some 43, none, .nxt (.tmp 42)⟩, ⟨some 44, none, .ext (.tmp 43) 0⟩]) (.seq (.cond (.tmp 44) (.skip) (.exit 0)) (.block 1 (.seq (.reg none [1, 2, 7, 9, 42] [⟨some 45, none, .ext (.tmp 43) 2⟩, ⟨some 9, none, .mv (.tmp 45)⟩]) (.block 2 (.seq (.reg none [1, 2, 7, 9, 42, 46] [⟨some 47, none, .mv (.tmp 9)⟩, ⟨some 48, none, .bin .eql (.tmp 47) (.const (.int .i32 78))⟩, ⟨some 46, none, .mv (.tmp 48)⟩]) (.cond (.tmp 46) (.skip) (.seq (.reg none [1, 2, 7, 9, 42, 49] [⟨some 50, none, .mv (.tmp 9)⟩, ⟨some 51, none, .bin .eql (.tmp 50) (.const (.int .i32 84))⟩, ⟨some 49, none, .mv (.tmp 51)⟩]) (.cond (.tmp 49) (.reg none [1, 2, 7, 42] [⟨some 52, none, .fa 5 (.tmp 2)⟩, ⟨some 53, none, .ld none (.tmp 52)⟩, ⟨some 54, none, .bin .lss (.tmp 53) (.const (.int .i64 0))⟩, ⟨some 55, none, .mv (.tmp 54)⟩, ⟨some 56, some (55, false), .fa 5 (.tmp 2)⟩, ⟨some 57, some (55, false), .ld none (.tmp 56)⟩, ⟨some 58, some (55, false), .mv (.tmp 1)⟩, ⟨some 59, some (55, false), .bin .geq (.tmp 57) (.tmp 58)⟩, ⟨some 60, none, .pick (.tmp 55) (.const (.bool true)) (.tmp 59)⟩, ⟨some 7, none, .mv (.tmp 60)⟩]) (.seq (.seq (.reg none [1, 2, 7, 9, 42, 61] [⟨some 62, none, .mv (.tmp 9)⟩, ⟨some 63, none, .bin .geq (.tmp 62) (.const (.int .i32 97))⟩, ⟨some 64, none, .mv (.tmp 63)⟩, ⟨some 65, some (64, true), .mv (.tmp 9)⟩, ⟨some 66, some (64, true), .call 109 [.tmp 2, .tmp 65]⟩, ⟨some 67, some (64, true), .nilc (.tmp 66)⟩, ⟨some 68, some (64, true), .ld none (.tmp 67)⟩, ⟨some 69, some (64, true), .call 59 [.tmp 68]⟩, ⟨some 70, some (64, true), .un .not (.tmp 69)⟩, ⟨some 71, none, .pick (.tmp 64) (.tmp 70) (.const (.bool false))⟩, ⟨some 61, none, .mv (.tmp 71)⟩]) (.cond (.tmp 61) (.skip) (.reg none [1, 2, 7, 42, 61] [⟨some 72, none, .mv (.tmp 9)⟩, ⟨some 73, none, .bin .lss (.tmp 72) (.const (.int .i32 97))⟩, ⟨some 74, none, .mv (.tmp 73)⟩, ⟨some 75, some (74, true), .mv (.tmp 9)⟩, ⟨some 76, some (74, true), .call 109 [.tmp 2, .tmp 75]⟩, ⟨some 77, some (74, true), .nilc (.tmp 76)⟩, ⟨some 78, some (74, true), .ld none (.tmp 77)⟩, ⟨some 79, some (74, true), .call 58 [.tmp 78]⟩, ⟨some 80, some (74, true), .un .not (.tmp 79)⟩, ⟨some 81, none, .pick (.tmp 74) (.tmp 80) (.const (.bool false))⟩, ⟨some 61, none, .mv (.tmp 81)⟩]))) (.cond (.tmp 61) (.seq (.reg none [4] [⟨some 4, none, .mv (.const (.int .i64 6))⟩]) (.ret)) (.skip))))))))))))))) (.seq (.seq (.reg none [82] [⟨some 82, none, .mv (.tmp 7)⟩]) (.cond (.tmp 82) (.seq (.reg none [4] [⟨some 4, none, .mv (.const (.int .i64 4))⟩]) (.ret)) (.skip))) (.seq (.reg none [4] [⟨some 4, none, .mv (.const (.int .i64 0))⟩]) (.ret)))))))
theorem ok52 : tabOk Tryd.prog 52 c52 [.tmp 4] 2 = true := by kernel_rfl
def fieldsOk (x : Ins) : Prop :=
  (x.op = 1 → x.a = 0 ∧ x.b = 0 ∧ x.to = 0) ∧ (x.op = 2 ∨ x.op = 3 ∨ x.op = 13 → x.b = 0 ∧ x.n = 0 ∧ x.to = 0) ∧ (4 ≤ x.op ∧ x.op ≤ 12 → x.n = 0 ∧ x.to = 0) ∧
  (x.op = 14 → x.d = 0 ∧ x.n = 0 ∧ x.to = 0) ∧ (x.op = 15 → x.b = 0 ∧ x.to = 0) ∧ (x.op = 16 → x.d = 0 ∧ x.a = 0 ∧ x.b = 0 ∧ x.n = 0) ∧ (x.op = 17 → x.d = 0 ∧ x.b = 0 ∧ x.n = 0) ∧ (x.op = 18 → x.d = 0 ∧ x.b = 0 ∧ x.n = 0 ∧ x.to = 0)
instance (x : Ins) : Decidable (fieldsOk x) := by unfold fieldsOk; infer_instance
/-- What is wrong with an instruction in a function of n. -/
def insErr (x : Ins) (n : Int) : Int :=
  if x.op < 1 ∨ x.op > 18 then 1 else if ¬ fieldsOk x then 1 else if x.op = 15 ∧ (x.n < 0 ∨ x.n > 99) then 1
  else if x.op ≤ 3 then (if (0 ≤ x.d ∧ x.d < 24) ∧ (0 ≤ x.a ∧ x.a < 24) then 0 else 6)
  else if ¬ ((0 ≤ x.d ∧ x.d < 8) ∧ (0 ≤ x.a ∧ x.a < 8) ∧ (0 ≤ x.b ∧ x.b < 8)) then 6
  else if (x.op = 16 ∨ x.op = 17) ∧ (x.to < 0 ∨ x.to ≥ n) then 4 else 0
theorem fn52 (x : Ins) (n : Int) : FnOK Tryd.prog gidD 52 2 [x.v, .val (i64 n)] (hl [(0, .ro shapesV)]) (.val (i64 (insErr x n))) (hl []) 2 := by
  refine FnOK.of ok52 (Nat.le_refl _) (Nat.le_refl _) fun M => ?_
  obtain ⟨op, d, a, b, m, to⟩ := x
  have hr := fun h1 h2 => fn108 ⟨op, d, a, b, m, to⟩ (op := op) h1 h2
  have hs : ∀ {op} (h : op < 1 ∨ op > 18), ofV op = .tup [.agg [.val (.string ⟨#[]⟩), .val (.string ⟨#[]⟩)], .val (.bool false)] := fun h => by unfold ofV; rw [if_neg (by omega)]
  have ho := fn107 op
  rcases op_cases op with h | h | rfl | rfl | rfl | rfl | rfl | rfl | rfl | rfl | rfl | rfl | rfl | rfl | rfl | rfl | rfl | rfl | rfl | rfl
  iterate 2
    · rw [hs (by omega)] at ho
      conv => whnf
      refine callX ho [.old 0, .old 1] rfl rfl rfl rfl ⟨rfl, trivial⟩ ?_
      conv => whnf
      exact retX [.old 0, .old 1] (.inl rfl) rfl (congrArg some (congrArg (fun z => V.val (i64 z)) (by unfold insErr; rw [if_pos (by simp; omega)]))) rfl trivial
  all_goals
    conv => whnf
    refine callX ho [.old 0, .old 1] rfl rfl rfl rfl ⟨rfl, trivial⟩ ?_
    conv => whnf
    refine callX (hr (by decide) (by decide)) [.old 0, .old 1] rfl rfl rfl rfl trivial ?_
    conv => whnf
    repeat' first
      | (refine brT_intro (fun h => ?_) (fun h => ?_) <;> conv => whnf)
      | (refine LoopS.round rfl ?_; conv => whnf)
      | (refine callX (fn109 (by decide)) [.old 0, .old 1, .old _] rfl rfl rfl rfl trivial ?_; conv => whnf)
      | (refine callX (fn58 _) [.old 0, .old 1] rfl rfl rfl rfl trivial ?_; conv => whnf)
      | (refine callX (fn59 _) [.old 0, .old 1] rfl rfl rfl rfl trivial ?_; conv => whnf)
    all_goals
      clear hr ho hs
      exact retX [.old 0, .old 1] (.inl rfl) rfl (congrArg some (congrArg (fun z => V.val (i64 z)) (by simp_all [insErr, fieldsOk, eqInts, restI, isLoc, isReg] <;> omega))) rfl trivial
end Go.Abs
