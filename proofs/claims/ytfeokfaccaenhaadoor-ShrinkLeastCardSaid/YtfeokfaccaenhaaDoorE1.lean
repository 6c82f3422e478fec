/- Contracts: places, fields, shapes. -/
import Derived.Test.YtfeokfaccaenhaaDoorB5
import Derived.Test.YtfeokfaccaenhaaDoorProg
set_option linter.unusedVariables false
set_option linter.unusedSimpArgs false
namespace Go.Abs
open Go.Proofs
-- joinery/loc.Reg
def c58 : C := .seq (.reg none [0] [⟨some 2, none, .mv (.const (.bool false))⟩]) (.seq (.reg none [2] [⟨some 3, none, .mv (.tmp 0)⟩, ⟨some 4, none, .bin .geq (.tmp 3) (.const (.int .i64 0))⟩, ⟨some 5, none, .mv (.tmp 4)⟩, ⟨some 6, some (5, true), .mv (.tmp 0)⟩, ⟨some 7, some (5, true), .bin .lss (.tmp 6) (.const (.int .i64 8))⟩, ⟨some 8, none, .pick (.tmp 5) (.tmp 7) (.const (.bool false))⟩, ⟨some 2, none, .mv (.tmp 8)⟩]) (.ret))
theorem ok58 : tabOk Tryd.prog 58 c58 [.tmp 2] 1 = true := by kernel_rfl
-- joinery/loc.Right
def c59 : C := .seq (.reg none [0] [⟨some 2, none, .mv (.const (.bool false))⟩]) (.seq (.reg none [2] [⟨some 3, none, .mv (.tmp 0)⟩, ⟨some 4, none, .bin .geq (.tmp 3) (.const (.int .i64 0))⟩, ⟨some 5, none, .mv (.tmp 4)⟩, ⟨some 6, some (5, true), .mv (.tmp 0)⟩, ⟨some 7, some (5, true), .bin .lss (.tmp 6) (.const (.int .i64 24))⟩, ⟨some 8, none, .pick (.tmp 5) (.tmp 7) (.const (.bool false))⟩, ⟨some 2, none, .mv (.tmp 8)⟩]) (.ret))
theorem ok59 : tabOk Tryd.prog 59 c59 [.tmp 2] 1 = true := by kernel_rfl
-- joinery/ins.of
def c107 : C := .seq (.reg none [0, 2] [⟨some 2, none, .new 184 [.string ⟨#[]⟩, .string ⟨#[]⟩]⟩, ⟨some 3, none, .mv (.const (.bool false))⟩]) (.seq (.seq (.reg none [0, 2, 9] [⟨some 4, none, .mv (.tmp 0)⟩, ⟨some 5, none, .bin .lss (.tmp 4) (.const (.int .i64 1))⟩, ⟨some 6, none, .mv (.tmp 5)⟩, ⟨some 7, some (6, false), .mv (.tmp 0)⟩, ⟨some 8, some (6, false), .bin .gtr (.tmp 7) (.const (.int .i64 18))⟩, ⟨some 9, none, .pick (.tmp 6) (.const (.bool true)) (.tmp 8)⟩]) (.cond (.tmp 9) (.seq (.reg none [2, 3] [⟨some 10, none, .bld 184 [.string ⟨#[]⟩, .string ⟨#[]⟩] []⟩, ⟨none, none, .st 2 (.tmp 2) (.tmp 10)⟩, ⟨some 3, none, .mv (.const (.bool false))⟩]) (.ret)) (.skip))) (.seq (.reg none [2, 3] [⟨some 11, none, .mv (.tmp 0)⟩, ⟨some 12, none, .bin .sub (.tmp 11) (.const (.int .i64 1))⟩, ⟨some 13, none, .iaa 18 2 (.global 1) (.tmp 12)⟩, ⟨some 14, none, .ld (some 2) (.tmp 13)⟩, ⟨none, none, .st 2 (.tmp 2) (.tmp 14)⟩, ⟨some 3, none, .mv (.const (.bool true))⟩]) (.ret)))
theorem ok107 : tabOk Tryd.prog 107 c107 [.cell 2 184 (some 2), .tmp 3] 1 = true := by kernel_rfl
-- joinery/ins.field
def c109 : C := .seq (.reg none [0, 1] [⟨some 4, none, .mv (.const (.pointer none))⟩]) (.seq (.seq (.reg none [0, 5] [⟨some 5, none, .mv (.tmp 1)⟩]) (.block 0 (.seq (.seq (.reg none [0, 5, 6] [⟨some 7, none, .bin .eql (.tmp 5) (.const (.int .i32 68))⟩, ⟨some 6, none, .mv (.tmp 7)⟩]) (.cond (.tmp 6) (.skip) (.reg none [0, 5, 6] [⟨some 8, none, .bin .eql (.tmp 5) (.const (.int .i32 100))⟩, ⟨some 6, none, .mv (.tmp 8)⟩]))) (.cond (.tmp 6) (.seq (.reg none [4] [⟨some 9, none, .mv (.tmp 0)⟩, ⟨some 10, none, .nilc (.tmp 9)⟩, ⟨some 11, none, .fa 1 (.tmp 10)⟩, ⟨some 4, none, .mv (.tmp 11)⟩]) (.ret)) (.seq (.seq (.reg none [0, 5, 12] [⟨some 13, none, .bin .eql (.tmp 5) (.const (.int .i32 65))⟩, ⟨some 12, none, .mv (.tmp 13)⟩]) (.cond (.tmp 12) (.skip) (.reg none [0, 12] [⟨some 14, none, .bin .eql (.tmp 5) (.const (.int .i32 97))⟩, ⟨some 12, none, .mv (.tmp 14)⟩]))) (.cond (.tmp 12) (.seq (.reg none [4] [⟨some 15, none, .mv (.tmp 0)⟩, ⟨some 16, none, .nilc (.tmp 15)⟩, ⟨some 17, none, .fa 2 (.tmp 16)⟩, ⟨some 4, none, .mv (.tmp 17)⟩]) (.ret)) (.skip))))))) (.seq (.reg none [4] [⟨some 18, none, .mv (.tmp 0)⟩, ⟨some 19, none, .nilc (.tmp 18)⟩, ⟨some 20, none, .fa 3 (.tmp 19)⟩, ⟨some 4, none, .mv (.tmp 20)⟩]) (.ret)))
theorem ok109 : tabOk Tryd.prog 109 c109 [.tmp 4] 2 = true := by kernel_rfl
-- joinery/ins.rest
def c108 : C := .seq (.reg none [2, 3, 4] [⟨some 2, none, .box 33 6 (.tmp 0)⟩, ⟨some 3, none, .box 184 2 (.tmp 1)⟩, ⟨some 4, none, .new 33 [.int .i64 0, .int .i64 0, .int .i64 0, .int .i64 0, .int .i64 0, .int .i64 0]⟩]) (.seq (.reg none [2, 3, 4] [⟨some 7, none, .fa 0 (.tmp 2)⟩, ⟨none, none, .st 1 (.tmp 7) (.const (.int .i64 0))⟩]) (.seq (.seq (.reg none [2, 4, 10] [⟨some 8, none, .fa 1 (.tmp 3)⟩, ⟨some 9, none, .ld none (.tmp 8)⟩, ⟨some 10, none, .rng (.tmp 9)⟩]) (.block 0 (.loop [2, 4, 10] (.seq (.reg none [2, 4, 10, 11, 12] [⟨some 11, none, .nxt (.tmp 10)⟩, ⟨some 12, none, .ext (.tmp 11) 0⟩]) (.seq (.cond (.tmp 12) (.skip) (.exit 0)) (.block 1 (.seq (.reg none [2, 4, 6, 10] [⟨some 13, none, .ext (.tmp 11) 2⟩, ⟨some 6, none, .mv (.tmp 13)⟩]) (.seq (.reg none [2, 4, 6, 10, 14] [⟨some 14, none, .mv (.tmp 6)⟩]) (.block 2 (.seq (.reg none [2, 4, 6, 10, 14, 18] [⟨some 19, none, .bin .eql (.tmp 14) (.const (.int .i32 78))⟩, ⟨some 18, none, .mv (.tmp 19)⟩]) (.cond (.tmp 18) (.reg none [2, 4, 10] [⟨some 20, none, .fa 4 (.tmp 2)⟩, ⟨none, none, .st 1 (.tmp 20) (.const (.int .i64 0))⟩]) (.seq (.reg none [2, 4, 6, 10, 21] [⟨some 22, none, .bin .eql (.tmp 14) (.const (.int .i32 84))⟩, ⟨some 21, none, .mv (.tmp 22)⟩]) (.cond (.tmp 21) (.reg none [2, 4, 10] [⟨some 23, none, .fa 5 (.tmp 2)⟩, ⟨none, none, .st 1 (.tmp 23) (.const (.int .i64 0))⟩]) (.reg none [2, 4, 10] [⟨some 15, none, .mv (.tmp 6)⟩, ⟨some 16, none, .call 109 [.tmp 2, .tmp 15]⟩, ⟨some 17, none, .nilc (.tmp 16)⟩, ⟨none, none, .st 1 (.tmp 17) (.const (.int .i64 0))⟩])))))))))))))) (.seq (.reg none [4] [⟨some 24, none, .ld (some 6) (.tmp 2)⟩, ⟨none, none, .st 6 (.tmp 4) (.tmp 24)⟩]) (.ret))))
theorem ok108 : tabOk Tryd.prog 108 c108 [.cell 4 33 (some 6)] 2 = true := by kernel_rfl
def isReg (l : Int) : Bool := decide (0 ≤ l) && decide (l < 8)
def isLoc (l : Int) : Bool := decide (0 ≤ l) && decide (l < 24)
theorem fn58 (l : Int) : FnOK Tryd.prog gidD 58 2 [.val (i64 l)] (hl []) (.val (.bool (isReg l))) (hl []) 2 := by
  refine FnOK.of ok58 (Nat.le_refl _) (Nat.le_refl _) fun M => ?_
  conv => whnf
  repeat' first
    | exact retX [.old 0, .old 1] (.inl rfl) rfl (congrArg some (congrArg (fun b => V.val (Value.bool b)) (by simp_all [isReg] <;> omega))) rfl trivial
    | (refine brT_intro (fun h => ?_) (fun h => ?_) <;> conv => whnf)
theorem fn59 (l : Int) : FnOK Tryd.prog gidD 59 2 [.val (i64 l)] (hl []) (.val (.bool (isLoc l))) (hl []) 2 := by
  refine FnOK.of ok59 (Nat.le_refl _) (Nat.le_refl _) fun M => ?_
  conv => whnf
  repeat' first
    | exact retX [.old 0, .old 1] (.inl rfl) rfl (congrArg some (congrArg (fun b => V.val (Value.bool b)) (by simp_all [isLoc] <;> omega))) rfl trivial
    | (refine brT_intro (fun h => ?_) (fun h => ?_) <;> conv => whnf)
/-- An operation's shape. -/
def ofV (op : Int) : V := if 1 ≤ op ∧ op ≤ 18 then .tup [.agg (vals ((shapesV.drop ((op - 1).toNat * 2)).take 2)), .val (.bool true)] else .tup [.agg [.val (.string ⟨#[]⟩), .val (.string ⟨#[]⟩)], .val (.bool false)]
theorem op_cases (op : Int) : op < 1 ∨ op > 18 ∨ op = 1 ∨ op = 2 ∨ op = 3 ∨ op = 4 ∨ op = 5 ∨ op = 6 ∨ op = 7 ∨ op = 8 ∨ op = 9 ∨ op = 10 ∨ op = 11 ∨ op = 12 ∨ op = 13 ∨ op = 14 ∨ op = 15 ∨ op = 16 ∨ op = 17 ∨ op = 18 := by omega
theorem fn107 (op : Int) : FnOK Tryd.prog gidD 107 2 [.val (i64 op)] (hl [(0, .ro shapesV)]) (ofV op) (hl []) 2 := by
  refine FnOK.of ok107 (Nat.le_refl _) (Nat.le_refl _) fun M => ?_
  rcases op_cases op with h | h | rfl | rfl | rfl | rfl | rfl | rfl | rfl | rfl | rfl | rfl | rfl | rfl | rfl | rfl | rfl | rfl | rfl | rfl
  · conv => whnf
    rw [decide_eq_true h]
    conv => whnf
    exact retX [.old 0, .old 1] (.inl rfl) rfl (by unfold ofV; rw [if_neg (by omega)]; rfl) rfl trivial
  · conv => whnf
    rw [decide_eq_false (by omega)]
    conv => whnf
    rw [decide_eq_true h]
    conv => whnf
    exact retX [.old 0, .old 1] (.inl rfl) rfl (by unfold ofV; rw [if_neg (by omega)]; rfl) rfl trivial
  all_goals
    conv => whnf
    exact retX [.old 0, .old 1] (.inl rfl) rfl rfl rfl trivial
def fieldOff (c : Int) : Nat := if c = 68 ∨ c = 100 then 1 else if c = 65 ∨ c = 97 then 2 else 3
theorem fn109 {c : Int} (hc : c = 68 ∨ c = 100 ∨ c = 65 ∨ c = 97 ∨ c = 66) : FnOK Tryd.prog gidD 109 3 [.ptr 2 0, .val (.int .i32 c)] (hl []) (.ptr 2 (fieldOff c)) (hl []) 3 := by
  refine FnOK.of ok109 (Nat.le_refl _) (Nat.le_refl _) fun M => ?_
  rcases hc with rfl | rfl | rfl | rfl | rfl
  all_goals
    conv => whnf
    exact retX [.old 0, .old 1, .old 2] (.inl rfl) rfl rfl rfl trivial
def restI (op : Int) (x : Ins) : Ins :=
  if op = 1 then { x with op := 0, d := 0, n := 0 } else if op ≤ 3 then { x with op := 0, d := 0, a := 0 } else if op ≤ 12 then { x with op := 0, d := 0, a := 0, b := 0 }
  else if op = 13 then { x with op := 0, d := 0, a := 0 } else if op = 14 then { x with op := 0, a := 0, b := 0 } else if op = 15 then { x with op := 0, d := 0, a := 0, n := 0 }
  else if op = 16 then { x with op := 0, to := 0 } else if op = 17 then { x with op := 0, a := 0, to := 0 } else { x with op := 0, a := 0 }
def shV (op : Int) : V := .agg (vals ((shapesV.drop ((op - 1).toNat * 2)).take 2))
theorem fn108 (x : Ins) {op : Int} (h1 : 1 ≤ op) (h2 : op ≤ 18) : FnOK Tryd.prog gidD 108 2 [x.v, shV op] (hl []) (restI op x).v (hl []) 2 := by
  refine FnOK.of ok108 (Nat.le_refl _) (Nat.le_refl _) fun M => ?_
  rcases op_cases op with h | h | rfl | rfl | rfl | rfl | rfl | rfl | rfl | rfl | rfl | rfl | rfl | rfl | rfl | rfl | rfl | rfl | rfl | rfl
  · omega
  · omega
  all_goals
    conv => whnf
    repeat' first
      | exact retK [.old 0, .old 1] (.inl rfl) (by kernel_rfl) (by kernel_rfl) rfl trivial
      | (refine callX (fn109 (by decide)) [.old 0, .old 1, .old _] rfl rfl rfl rfl trivial ?_; conv => whnf)
      | (refine LoopS.round rfl ?_; conv => whnf)
end Go.Abs
