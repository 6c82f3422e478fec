/- The laws ShrinkKeeps and ShrinkLeast. -/
import Derived.Test.YtfeokfaccaenhaaDoorE35
set_option linter.unusedVariables false
set_option linter.unusedSimpArgs false
namespace Go.Abs
open Go.Proofs
set_option maxRecDepth 100000
set_option maxHeartbeats 8000000
-- joinery/joinerylaw20.ShrinkKeeps
def c6 : C := .seq (.reg none [0, 1, 5] [⟨some 5, none, .box 39 11 (.tmp 2)⟩, ⟨some 6, none, .mv (.const (.bool false))⟩]) (.seq (.seq (.reg none [0, 1, 5, 18] [⟨some 15, none, .mv (.tmp 0)⟩, ⟨some 16, none, .mv (.tmp 1)⟩, ⟨some 17, none, .ld (some 11) (.tmp 5)⟩, ⟨some 18, none, .call 28 [.tmp 15, .tmp 16, .tmp 17]⟩]) (.cond (.tmp 18) (.seq (.reg none [6] [⟨some 19, none, .call 29 []⟩, ⟨some 6, none, .mv (.tmp 19)⟩]) (.ret)) (.skip))) (.seq (.reg none [0, 1, 5, 7, 8, 9] [⟨some 21, none, .mv (.tmp 0)⟩, ⟨some 22, none, .mv (.tmp 1)⟩, ⟨some 23, none, .ld (some 11) (.tmp 5)⟩, ⟨some 24, none, .call 30 [.tmp 21, .tmp 22, .tmp 23]⟩, ⟨some 20, none, .mv (.tmp 24)⟩, ⟨some 25, none, .ext (.tmp 20) 0⟩, ⟨some 26, none, .ext (.tmp 20) 1⟩, ⟨some 27, none, .ext (.tmp 20) 2⟩, ⟨some 7, none, .new 39 [.int .i64 0, .int .i64 0, .int .i64 0, .int .i64 0, .int .i64 0, .int .i64 0, .int .i64 0, .int .i64 0, .slice none 0 0, .slice none 0 0, .int .i64 0]⟩, ⟨none, none, .st 11 (.tmp 7) (.tmp 25)⟩, ⟨some 8, none, .mv (.tmp 26)⟩, ⟨some 9, none, .mv (.tmp 27)⟩]) (.seq (.seq (.reg none [0, 1, 5, 7, 8, 29] [⟨some 28, none, .mv (.tmp 9)⟩, ⟨some 29, none, .bin .neq (.tmp 28) (.const (.int .i64 0))⟩]) (.cond (.tmp 29) (.seq (.reg none [6] [⟨some 30, none, .mv (.tmp 8)⟩, ⟨some 31, none, .bin .eql (.tmp 30) (.const (.int .i64 0))⟩, ⟨some 32, none, .mv (.tmp 31)⟩, ⟨some 33, some (32, true), .call 29 []⟩, ⟨some 34, none, .pick (.tmp 32) (.tmp 33) (.const (.bool false))⟩, ⟨some 6, none, .mv (.tmp 34)⟩]) (.ret)) (.skip))) (.seq (.reg none [0, 1, 5, 7, 8, 10, 11] [⟨some 36, none, .mv (.tmp 0)⟩, ⟨some 37, none, .mv (.tmp 1)⟩, ⟨some 38, none, .ld (some 11) (.tmp 7)⟩, ⟨some 39, none, .call 31 [.tmp 36, .tmp 37, .tmp 38]⟩, ⟨some 35, none, .mv (.tmp 39)⟩, ⟨some 40, none, .ext (.tmp 35) 0⟩, ⟨some 41, none, .ext (.tmp 35) 1⟩, ⟨some 10, none, .mv (.tmp 40)⟩, ⟨some 11, none, .mv (.tmp 41)⟩]) (.seq (.reg none [5, 7, 8, 10, 11, 12] [⟨some 43, none, .mv (.tmp 0)⟩, ⟨some 44, none, .mv (.tmp 1)⟩, ⟨some 45, none, .ld (some 11) (.tmp 5)⟩, ⟨some 46, none, .call 31 [.tmp 43, .tmp 44, .tmp 45]⟩, ⟨some 42, none, .mv (.tmp 46)⟩, ⟨some 47, none, .ext (.tmp 42) 0⟩, ⟨some 48, none, .ext (.tmp 42) 1⟩, ⟨some 12, none, .mv (.tmp 47)⟩, ⟨some 13, none, .mv (.tmp 48)⟩]) (.seq (.seq (.reg none [5, 7, 87] [⟨some 49, none, .mv (.tmp 11)⟩, ⟨some 50, none, .bin .neq (.tmp 49) (.const (.int .i64 0))⟩, ⟨some 51, none, .mv (.tmp 50)⟩, ⟨some 52, some (51, false), .mv (.tmp 10)⟩, ⟨some 53, some (51, false), .mv (.tmp 8)⟩, ⟨some 54, some (51, false), .bin .neq (.tmp 52) (.tmp 53)⟩, ⟨some 55, none, .pick (.tmp 51) (.const (.bool true)) (.tmp 54)⟩, ⟨some 56, none, .mv (.tmp 55)⟩, ⟨some 57, some (56, false), .mv (.tmp 8)⟩, ⟨some 58, some (56, false), .bin .eql (.tmp 57) (.const (.int .i64 0))⟩, ⟨some 59, some (56, false), .mv (.tmp 12)⟩, ⟨some 60, some (56, false), .bin .eql (.tmp 59) (.const (.int .i64 0))⟩, ⟨some 61, some (56, false), .eqb true (.tmp 58) (.tmp 60)⟩, ⟨some 62, none, .pick (.tmp 56) (.const (.bool true)) (.tmp 61)⟩, ⟨some 63, none, .mv (.tmp 62)⟩, ⟨some 64, some (63, false), .fa 10 (.tmp 7)⟩, ⟨some 65, some (63, false), .ld none (.tmp 64)⟩, ⟨some 66, some (63, false), .fa 10 (.tmp 5)⟩, ⟨some 67, some (63, false), .ld none (.tmp 66)⟩, ⟨some 68, some (63, false), .bin .gtr (.tmp 65) (.tmp 67)⟩, ⟨some 69, none, .pick (.tmp 63) (.const (.bool true)) (.tmp 68)⟩, ⟨some 70, none, .mv (.tmp 69)⟩, ⟨some 71, some (70, false), .fa 9 (.tmp 7)⟩, ⟨some 72, some (70, false), .ld none (.tmp 71)⟩, ⟨some 73, some (70, false), .len (.tmp 72)⟩, ⟨some 74, some (70, false), .fa 9 (.tmp 5)⟩, ⟨some 75, some (70, false), .ld none (.tmp 74)⟩, ⟨some 76, some (70, false), .len (.tmp 75)⟩, ⟨some 77, some (70, false), .bin .gtr (.tmp 73) (.tmp 76)⟩, ⟨some 78, none, .pick (.tmp 70) (.const (.bool true)) (.tmp 77)⟩, ⟨some 79, none, .mv (.tmp 78)⟩, ⟨some 80, some (79, false), .fa 8 (.tmp 7)⟩, ⟨some 81, some (79, false), .ld none (.tmp 80)⟩, ⟨some 82, some (79, false), .len (.tmp 81)⟩, ⟨some 83, some (79, false), .fa 8 (.tmp 5)⟩, ⟨some 84, some (79, false), .ld none (.tmp 83)⟩, ⟨some 85, some (79, false), .len (.tmp 84)⟩, ⟨some 86, some (79, false), .bin .gtr (.tmp 82) (.tmp 85)⟩, ⟨some 87, none, .pick (.tmp 79) (.const (.bool true)) (.tmp 86)⟩]) (.cond (.tmp 87) (.seq (.reg none [6] [⟨some 6, none, .mv (.const (.bool false))⟩]) (.ret)) (.skip))) (.seq (.seq (.reg none [5, 7, 14] [⟨some 14, none, .mv (.const (.int .i64 0))⟩]) (.block 0 (.loop [5, 7, 14] (.seq (.seq (.reg none [5, 7, 14, 89] [⟨some 88, none, .mv (.tmp 14)⟩, ⟨some 89, none, .bin .lss (.tmp 88) (.const (.int .i64 8))⟩]) (.cond (.tmp 89) (.skip) (.exit 0))) (.seq (.block 1 (.seq (.reg (some [[], [0], [], [], [0, 1, 2, 3], [0, 1, 2, 3, 4], [0, 1, 2, 3], [0, 1, 2, 3], [], [], [], [10], [], [], [], []]) [5, 7, 14, 107] [⟨some 92, none, .mv (.tmp 14)⟩, ⟨some 93, none, .fa 0 (.tmp 7)⟩, ⟨some 94, none, .iaa 8 1 (.tmp 93) (.tmp 92)⟩, ⟨some 95, none, .ld none (.tmp 94)⟩, ⟨some 96, none, .mv (.tmp 14)⟩, ⟨some 97, none, .fa 0 (.tmp 5)⟩, ⟨some 98, none, .iaa 8 1 (.tmp 97) (.tmp 96)⟩, ⟨some 99, none, .ld none (.tmp 98)⟩, ⟨some 100, none, .bin .neq (.tmp 95) (.tmp 99)⟩, ⟨some 101, none, .mv (.tmp 100)⟩, ⟨some 102, some (101, true), .mv (.tmp 14)⟩, ⟨some 103, some (101, true), .fa 0 (.tmp 7)⟩, ⟨some 104, some (101, true), .iaa 8 1 (.tmp 103) (.tmp 102)⟩, ⟨some 105, some (101, true), .ld none (.tmp 104)⟩, ⟨some 106, some (101, true), .bin .neq (.tmp 105) (.const (.int .i64 0))⟩, ⟨some 107, none, .pick (.tmp 101) (.tmp 106) (.const (.bool false))⟩]) (.cond (.tmp 107) (.seq (.reg none [6] [⟨some 6, none, .mv (.const (.bool false))⟩]) (.ret)) (.skip)))) (.reg none [5, 7, 14] [⟨some 90, none, .mv (.tmp 14)⟩, ⟨some 91, none, .bin .add (.tmp 90) (.const (.int .i64 1))⟩, ⟨some 14, none, .mv (.tmp 91)⟩])))))) (.seq (.reg (some [[], [], [0, 1], [0, 1], [0, 1, 2, 3], [0, 1, 2, 3], [0, 1, 2, 3], [0, 1], [], [], [], [], [10, 11], [10, 11], [10, 11, 12, 13], [10, 11, 12, 13], [10, 11, 12, 13], [10, 11], [], [], [], [], [], []]) [6] [⟨some 108, none, .fa 9 (.tmp 7)⟩, ⟨some 109, none, .ld none (.tmp 108)⟩, ⟨some 110, none, .fa 9 (.tmp 5)⟩, ⟨some 111, none, .ld none (.tmp 110)⟩, ⟨some 112, none, .fa 9 (.tmp 7)⟩, ⟨some 113, none, .ld none (.tmp 112)⟩, ⟨some 114, none, .len (.tmp 113)⟩, ⟨some 115, none, .slc 1 (.tmp 111) none (some (.tmp 114))⟩, ⟨some 116, none, .call 32 [.tmp 109, .tmp 115]⟩, ⟨some 117, none, .mv (.tmp 116)⟩, ⟨some 118, some (117, true), .fa 8 (.tmp 7)⟩, ⟨some 119, some (117, true), .ld none (.tmp 118)⟩, ⟨some 120, some (117, true), .fa 8 (.tmp 5)⟩, ⟨some 121, some (117, true), .ld none (.tmp 120)⟩, ⟨some 122, some (117, true), .fa 8 (.tmp 7)⟩, ⟨some 123, some (117, true), .ld none (.tmp 122)⟩, ⟨some 124, some (117, true), .len (.tmp 123)⟩, ⟨some 125, some (117, true), .slc 1 (.tmp 121) none (some (.tmp 124))⟩, ⟨some 126, some (117, true), .call 32 [.tmp 119, .tmp 125]⟩, ⟨some 127, none, .pick (.tmp 117) (.tmp 126) (.const (.bool false))⟩, ⟨some 128, none, .mv (.tmp 127)⟩, ⟨some 129, some (128, true), .call 29 []⟩, ⟨some 130, none, .pick (.tmp 128) (.tmp 129) (.const (.bool false))⟩, ⟨some 6, none, .mv (.tmp 130)⟩]) (.ret)))))))))
theorem ok6 : tabOk Tryd.prog 6 c6 [.tmp 6] 3 = true := by kernel_rfl
-- joinery/joinerylaw20.ShrinkLeast
def c7 : C := .seq (.reg none [0, 1, 3, 4, 7] [⟨some 7, none, .box 39 11 (.tmp 2)⟩, ⟨some 10, none, .mv (.const (.bool false))⟩]) (.seq (.seq (.reg none [0, 1, 3, 4, 7, 23] [⟨some 20, none, .mv (.tmp 0)⟩, ⟨some 21, none, .mv (.tmp 1)⟩, ⟨some 22, none, .ld (some 11) (.tmp 7)⟩, ⟨some 23, none, .call 28 [.tmp 20, .tmp 21, .tmp 22]⟩]) (.cond (.tmp 23) (.seq (.reg none [10] [⟨some 24, none, .call 29 []⟩, ⟨some 10, none, .mv (.tmp 24)⟩]) (.ret)) (.skip))) (.seq (.reg none [0, 1, 3, 4, 7, 11, 12, 13] [⟨some 26, none, .mv (.tmp 0)⟩, ⟨some 27, none, .mv (.tmp 1)⟩, ⟨some 28, none, .ld (some 11) (.tmp 7)⟩, ⟨some 29, none, .call 30 [.tmp 26, .tmp 27, .tmp 28]⟩, ⟨some 25, none, .mv (.tmp 29)⟩, ⟨some 30, none, .ext (.tmp 25) 0⟩, ⟨some 31, none, .ext (.tmp 25) 1⟩, ⟨some 32, none, .ext (.tmp 25) 2⟩, ⟨some 11, none, .new 39 [.int .i64 0, .int .i64 0, .int .i64 0, .int .i64 0, .int .i64 0, .int .i64 0, .int .i64 0, .int .i64 0, .slice none 0 0, .slice none 0 0, .int .i64 0]⟩, ⟨none, none, .st 11 (.tmp 11) (.tmp 30)⟩, ⟨some 12, none, .mv (.tmp 31)⟩, ⟨some 13, none, .mv (.tmp 32)⟩]) (.seq (.seq (.reg none [0, 1, 3, 4, 7, 11, 38] [⟨some 33, none, .mv (.tmp 13)⟩, ⟨some 34, none, .bin .neq (.tmp 33) (.const (.int .i64 0))⟩, ⟨some 35, none, .mv (.tmp 34)⟩, ⟨some 36, some (35, false), .mv (.tmp 12)⟩, ⟨some 37, some (35, false), .bin .eql (.tmp 36) (.const (.int .i64 0))⟩, ⟨some 38, none, .pick (.tmp 35) (.const (.bool true)) (.tmp 37)⟩]) (.cond (.tmp 38) (.seq (.reg none [10] [⟨some 39, none, .call 29 []⟩, ⟨some 10, none, .mv (.tmp 39)⟩]) (.ret)) (.skip))) (.seq (.reg none [0, 1, 3, 4, 7, 11, 14] [⟨some 40, none, .ld (some 11) (.tmp 7)⟩, ⟨some 14, none, .new 39 [.int .i64 0, .int .i64 0, .int .i64 0, .int .i64 0, .int .i64 0, .int .i64 0, .int .i64 0, .int .i64 0, .slice none 0 0, .slice none 0 0, .int .i64 0]⟩, ⟨none, none, .st 11 (.tmp 14) (.tmp 40)⟩]) (.seq (.reg none [0, 1, 4, 7, 11, 14] [⟨some 41, none, .mv (.tmp 3)⟩, ⟨some 42, none, .cvi .i64 (.tmp 41)⟩, ⟨some 43, none, .fa 10 (.tmp 14)⟩, ⟨none, none, .st 1 (.tmp 43) (.tmp 42)⟩]) (.seq (.reg none [0, 1, 4, 7, 11, 14, 15] [⟨some 44, none, .ld (some 11) (.tmp 7)⟩, ⟨some 15, none, .new 39 [.int .i64 0, .int .i64 0, .int .i64 0, .int .i64 0, .int .i64 0, .int .i64 0, .int .i64 0, .int .i64 0, .slice none 0 0, .slice none 0 0, .int .i64 0]⟩, ⟨none, none, .st 11 (.tmp 15) (.tmp 44)⟩]) (.seq (.reg none [0, 1, 4, 7, 11, 14, 15] [⟨some 45, none, .fa 10 (.tmp 11)⟩, ⟨some 46, none, .ld none (.tmp 45)⟩, ⟨some 47, none, .fa 10 (.tmp 15)⟩, ⟨none, none, .st 1 (.tmp 47) (.tmp 46)⟩]) (.seq (.seq (.reg none [0, 1, 4, 7, 11, 14, 15, 53] [⟨some 48, none, .mv (.tmp 4)⟩, ⟨some 49, none, .cvi .i64 (.tmp 48)⟩, ⟨some 50, none, .fa 9 (.tmp 11)⟩, ⟨some 51, none, .ld none (.tmp 50)⟩, ⟨some 52, none, .len (.tmp 51)⟩, ⟨some 53, none, .bin .lss (.tmp 49) (.tmp 52)⟩]) (.cond (.tmp 53) (.seq (.reg none [0, 1, 11, 14, 15] [⟨some 54, none, .fa 9 (.tmp 7)⟩, ⟨some 55, none, .ld none (.tmp 54)⟩, ⟨some 56, none, .mv (.tmp 4)⟩, ⟨some 57, none, .cvi .i64 (.tmp 56)⟩, ⟨some 58, none, .slc 1 (.tmp 55) none (some (.tmp 57))⟩, ⟨some 59, none, .fa 9 (.tmp 15)⟩, ⟨none, none, .st 1 (.tmp 59) (.tmp 58)⟩]) (.seq (.reg none [0, 1, 11, 14, 16, 17] [⟨some 61, none, .mv (.tmp 0)⟩, ⟨some 62, none, .mv (.tmp 1)⟩, ⟨some 63, none, .ld (some 11) (.tmp 15)⟩, ⟨some 64, none, .call 31 [.tmp 61, .tmp 62, .tmp 63]⟩, ⟨some 60, none, .mv (.tmp 64)⟩, ⟨some 65, none, .ext (.tmp 60) 0⟩, ⟨some 66, none, .ext (.tmp 60) 1⟩, ⟨some 16, none, .mv (.tmp 65)⟩, ⟨some 17, none, .mv (.tmp 66)⟩]) (.seq (.reg none [0, 1, 11, 14, 72] [⟨some 67, none, .mv (.tmp 16)⟩, ⟨some 68, none, .bin .neq (.tmp 67) (.const (.int .i64 0))⟩, ⟨some 69, none, .mv (.tmp 68)⟩, ⟨some 70, some (69, false), .mv (.tmp 17)⟩, ⟨some 71, some (69, false), .bin .neq (.tmp 70) (.const (.int .i64 0))⟩, ⟨some 72, none, .pick (.tmp 69) (.const (.bool true)) (.tmp 71)⟩]) (.cond (.tmp 72) (.seq (.reg none [10] [⟨some 10, none, .mv (.const (.bool false))⟩]) (.ret)) (.skip))))) (.skip))) (.seq (.seq (.reg none [0, 1, 14, 77] [⟨some 73, none, .fa 10 (.tmp 14)⟩, ⟨some 74, none, .ld none (.tmp 73)⟩, ⟨some 75, none, .fa 10 (.tmp 11)⟩, ⟨some 76, none, .ld none (.tmp 75)⟩, ⟨some 77, none, .bin .geq (.tmp 74) (.tmp 76)⟩]) (.cond (.tmp 77) (.seq (.reg none [10] [⟨some 78, none, .call 29 []⟩, ⟨some 10, none, .mv (.tmp 78)⟩]) (.ret)) (.skip))) (.seq (.reg none [18, 19] [⟨some 80, none, .mv (.tmp 0)⟩, ⟨some 81, none, .mv (.tmp 1)⟩, ⟨some 82, none, .ld (some 11) (.tmp 14)⟩, ⟨some 83, none, .call 31 [.tmp 80, .tmp 81, .tmp 82]⟩, ⟨some 79, none, .mv (.tmp 83)⟩, ⟨some 84, none, .ext (.tmp 79) 0⟩, ⟨some 85, none, .ext (.tmp 79) 1⟩, ⟨some 18, none, .mv (.tmp 84)⟩, ⟨some 19, none, .mv (.tmp 85)⟩]) (.seq (.reg none [10] [⟨some 86, none, .mv (.tmp 18)⟩, ⟨some 87, none, .bin .eql (.tmp 86) (.const (.int .i64 0))⟩, ⟨some 88, none, .mv (.tmp 87)⟩, ⟨some 89, some (88, true), .mv (.tmp 19)⟩, ⟨some 90, some (88, true), .bin .eql (.tmp 89) (.const (.int .i64 0))⟩, ⟨some 91, none, .pick (.tmp 88) (.tmp 90) (.const (.bool false))⟩, ⟨some 92, none, .mv (.tmp 91)⟩, ⟨some 93, some (92, true), .call 29 []⟩, ⟨some 94, none, .pick (.tmp 92) (.tmp 93) (.const (.bool false))⟩, ⟨some 10, none, .mv (.tmp 94)⟩]) (.ret))))))))))))
theorem ok7 : tabOk Tryd.prog 7 c7 [.tmp 10] 5 = true := by kernel_rfl
theorem u8_bd {z : Int} (h : (Lit.int .u8 z).wf = true) : 0 ≤ z ∧ z < 256 := by
  have e1 : IntKind.min .u8 = 0 := rfl
  have e2 : IntKind.max .u8 = 255 := rfl
  simp only [Lit.wf, e1, e2, Bool.and_eq_true, decide_eq_true_eq] at h
  omega
theorem preTake {X W : List Int} (h : X = W.take X.length) : ((vals (nums W)).drop 0).take (nums X).length = vals (nums X) := by
  have := subTake W X.length
  rw [← h] at this
  exact this
theorem shrinkE_kind (f g : List Ins) (c : Cas) : (shrinkE f g c).2 = tellC f g (shrinkE f g c).1 := by
  unfold shrinkE
  split
  · rename_i h; exact h.symm
  · rfl
theorem shrinkE_none (f g : List Ins) (c : Cas) (h0 : 0 ≤ c.fuel) : (shrinkE f g c).2 = 0 ↔ tellC f g c = 0 := by
  unfold shrinkE
  split
  · rename_i h; simp [h]
  · rename_i h
    have := (shrink_spec (telB f g) c h0 (decide_eq_true h)).2.1
    simp only
    constructor
    · intro e; unfold telB at this; have := of_decide_eq_true this; exact absurd e this
    · intro e; exact absurd e h
theorem shrinkE_least (f g : List Ins) (c : Cas) (h0 : 0 ≤ c.fuel) (h : tellC f g c ≠ 0) :
    (∀ a : Nat, (a : Int) < (shrinkE f g c).1.fuel → tellC f g { c with fuel := a } = 0) ∧ ∀ b : Nat, b < (shrinkE f g c).1.A.length → tellC f g ⟨c.R, c.H, c.A.take b, (shrinkE f g c).1.fuel⟩ = 0 := by
  rw [show shrinkE f g c = (shrinkC (telB f g) c, tellC f g (shrinkC (telB f g) c)) from if_neg h]
  simp only
  obtain ⟨_, _, h3, h4⟩ := shrink_spec (telB f g) c h0 (decide_eq_true h)
  have not_tell : ∀ d, telB f g d = false → tellC f g d = 0 := fun d hd => by unfold telB at hd; have := of_decide_eq_false hd; simpa using this
  refine ⟨fun a ha => not_tell _ ?_, fun b hb => not_tell _ ?_⟩
  · rw [h3] at ha
    have hl := (least_spec (fun n => telB f g { c with fuel := n }) c.fuel.toNat 0).2.2.1
    refine hl a (Nat.zero_le _) ?_
    have : ((fuelC (telB f g) c).fuel : Int) = ((leastN (fun n => telB f g { c with fuel := n }) c.fuel.toNat 0 : Nat) : Int) := rfl
    omega
  · rw [h3]
    rw [h4] at hb
    have hl := (least_spec (fun n => telB f g { fuelC (telB f g) c with A := (fuelC (telB f g) c).A.take n }) (fuelC (telB f g) c).A.length 0)
    have hlen : (ansC (telB f g) (fuelC (telB f g) c)).A.length ≤ ansN (telB f g) (fuelC (telB f g) c) := by simp only [ansC, List.length_take]; omega
    exact hl.2.2.1 b (Nat.zero_le _) (by have : ansN (telB f g) (fuelC (telB f g) c) = leastN (fun n => telB f g { fuelC (telB f g) c with A := (fuelC (telB f g) c).A.take n }) (fuelC (telB f g) c).A.length 0 := rfl; omega)
theorem fn6 (f g : List Ins) (c : Cas) (hR : c.R.length = 8) : FnOK Tryd.prog gidD 6 6 [.sl 2 0 f.length, .sl 3 0 g.length, caV 4 5 c] (hl [(0, .ro shapesV), (2, .ro (insCells f)), (3, .ro (insCells g)), (4, .ro (nums c.H)), (5, .ro (nums c.A))]) (vb true) (hl []) 6 := by
  refine FnOK.of ok6 (Nat.le_refl _) (Nat.le_refl _) fun M => ?_
  have hG := fn28 f g c hR
  have hC1n := fn30n f g c hR
  have hC1y := fn30 f g c hR
  have hK := fn29
  by_cases hg : great20 f g c = true
  · rw [hg] at hG
    obtain ⟨R, H, A, fuel⟩ := c
    simp only at hR
    obtain ⟨r0, r1, r2, r3, r4, r5, r6, r7, hRe⟩ := list8 hR
    unfold caV caC at hG ⊢
    simp only at hG ⊢
    rw [hRe] at hG ⊢
    conv => whnf
    refine callX hG [.old 0, .old 1, .old 2, .old 3, .old 4, .old 5] rfl rfl rfl rfl trivial ?_
    conv => whnf
    refine callX hK [.old 0, .old 1] rfl rfl rfl rfl ⟨rfl, trivial⟩ ?_
    conv => whnf
    exact retX [.old 0, .old 1, .old 2, .old 3, .old 4, .old 5] (.inl rfl) rfl rfl rfl trivial
  have hg : great20 f g c = false := by simpa using hg
  rw [hg] at hG
  obtain ⟨_, _, hH, hA⟩ := great20_len hg
  cases hf : (fair f c && fair g c)
  · have hC1 := hC1n hf
    clear hC1n hC1y hf
    obtain ⟨R, H, A, fuel⟩ := c
    simp only at hR
    obtain ⟨r0, r1, r2, r3, r4, r5, r6, r7, hRe⟩ := list8 hR
    unfold caV caC at hG hC1 ⊢
    simp only at hG hC1 ⊢
    rw [hRe] at hG hC1 ⊢
    conv => whnf
    refine callX hG [.old 0, .old 1, .old 2, .old 3, .old 4, .old 5] rfl rfl rfl rfl trivial ?_
    conv => whnf
    refine callX hC1 [.old 0, .old 1, .old 2, .old 3, .old 4, .old 5] rfl rfl rfl rfl ⟨rfl, rfl, rfl, rfl, rfl, trivial⟩ ?_
    conv => whnf
    refine callX hK [.old 0, .old 1] rfl rfl rfl rfl ⟨rfl, trivial⟩ ?_
    conv => whnf
    exact retX [.old 0, .old 1, .old 2, .old 3, .old 4, .old 5] (.inl rfl) rfl rfl rfl trivial
  simp only [Bool.and_eq_true] at hf
  have hC1 := hC1y hf.1 hf.2
  clear hC1n hC1y
  have h0 : 0 ≤ c.fuel := by have := hf.1; simp only [fair, caseOk, Bool.and_eq_true, decide_eq_true_eq] at this; exact this.2.2.2.1
  have hsm := shrinkE_small f g c h0
  have hkd := shrinkE_kind f g c
  have hkn := shrinkE_none f g c h0
  have hTc := fn31 f g c hR hf.1 hf.2
  have hTx := fn31 f g (shrinkE f g c).1 (hsm.R.1.trans hR) (fair_small hsm hf.1) (fair_small hsm hf.2)
  rw [← hkd] at hTx
  clear hkd
  generalize tellC f g c = was at hkn hTc
  generalize shrinkE f g c = e at hC1 hsm hkn hTx
  obtain ⟨x, kd⟩ := e
  simp only at hsm hC1 hkn hTx
  have hxR : x.R.length = 8 := hsm.R.1.trans hR
  have hS1 := fn32 x.H x.H (by have := hsm.H.2; omega)
  have hS2 := fn32 x.A x.A (by have := hsm.A.2; omega)
  rw [decide_eq_true rfl] at hS1 hS2
  obtain ⟨R, H, A, fuel⟩ := c
  obtain ⟨Q, H2, A2, fuel2⟩ := x
  have pH := hsm.H
  have pA := hsm.A
  have pF := hsm.fuel.1
  have pR := hsm.R.2
  simp only at hR hxR pH pA pF pR hH hA
  obtain ⟨r0, r1, r2, r3, r4, r5, r6, r7, hRe⟩ := list8 hR
  obtain ⟨q0, q1, q2, q3, q4, q5, q6, q7, hQe⟩ := list8 hxR
  rw [hRe, hQe] at pR
  unfold caV caC at hG hC1 hTc hTx ⊢
  simp only at hG hC1 hTc hTx hS1 hS2 ⊢
  rw [hRe] at hG hC1 hTc ⊢
  rw [hQe] at hC1 hTx
  have hkb : (!(decide (kd = 0) == decide (was = 0))) = false := by
    have h9 : decide (kd = 0) = decide (was = 0) := decide_eq_decide.2 hkn
    rw [h9]
    cases decide (was = 0) <;> rfl
  conv => whnf
  refine callX hG [.old 0, .old 1, .old 2, .old 3, .old 4, .old 5] rfl rfl rfl rfl trivial ?_
  conv => whnf
  refine callX hC1 [.old 0, .old 1, .old 2, .old 3, .old 4, .old 5] rfl rfl rfl rfl ⟨rfl, rfl, rfl, rfl, rfl, trivial⟩ ?_
  conv => whnf
  refine callX hTx [.old 0, .old 1, .old 2, .old 3, .view 7 0, .view 8 0] rfl rfl rfl rfl ⟨rfl, rfl, rfl, ⟨_, rfl, preLe pH.1 pH.2, preTake pH.1⟩, ⟨_, rfl, preLe pA.1 pA.2, preTake pA.1⟩, trivial⟩ ?_
  conv => whnf
  refine callX hTc [.old 0, .old 1, .old 2, .old 3, .old 4, .old 5] rfl rfl rfl rfl ⟨rfl, rfl, rfl, rfl, rfl, trivial⟩ ?_
  conv => whnf
  refine brT_false (decide_eq_false (fun h => h rfl)) ?_
  conv => whnf
  refine brT_false hkb ?_
  conv => whnf
  refine brT_false (decide_eq_false (by omega)) ?_
  conv => whnf
  refine brT_false (decide_eq_false (by omega)) ?_
  conv => whnf
  refine brT_false (decide_eq_false (by omega)) ?_
  conv => whnf
  refine LoopS.ren (F2 := [(0, .ro shapesV), (4, .ro (nums H)), (5, .ro (nums A)), (6, .cel 39 (vals (nums [r0, r1, r2, r3, r4, r5, r6, r7]) ++ [.sl 4 0 H.length, .sl 5 0 A.length, vi fuel])), (7, .row 2 (nums H)), (8, .row 2 (nums A)), (9, .cel 39 (vals (nums [q0, q1, q2, q3, q4, q5, q6, q7]) ++ [.sl 7 0 H2.length, .sl 8 0 A2.length, vi fuel2]))]) (fr2 := [(5, .ptr 6 0), (7, .ptr 9 0), (14, vi (0 : Nat))]) (n2 := 10) [.old 0, .old 1, .old 2, .old 3, .old 4, .old 5, .old 6, .old 7, .old 8, .old 9] ?_ rfl (by decide) ⟨rfl, rfl, rfl, trivial⟩ ⟨rfl, rfl, rfl, ⟨_, rfl, rfl⟩, ⟨_, rfl, rfl⟩, ⟨_, rfl, rfl⟩, ⟨_, rfl, rfl⟩, trivial⟩
  refine LoopS.ind (S := Nat) (fun i => [(5, .ptr 6 0), (7, .ptr 9 0), (14, vi i)]) (fun _ => hl [(0, .ro shapesV), (4, .ro (nums H)), (5, .ro (nums A)), (6, .cel 39 (vals (nums [r0, r1, r2, r3, r4, r5, r6, r7]) ++ [.sl 4 0 H.length, .sl 5 0 A.length, vi fuel])), (7, .row 2 (nums H)), (8, .row 2 (nums A)), (9, .cel 39 (vals (nums [q0, q1, q2, q3, q4, q5, q6, q7]) ++ [.sl 7 0 H2.length, .sl 8 0 A2.length, vi fuel2]))]) 10 (fun i => i ≤ 8) (fun i => 8 - i) ?_ 0 (Nat.zero_le _)
  intro i hi ih
  refine LoopS.round rfl ?_
  by_cases hlt : i < 8
  · have hi8 : i = 0 ∨ i = 1 ∨ i = 2 ∨ i = 3 ∨ i = 4 ∨ i = 5 ∨ i = 6 ∨ i = 7 := by omega
    have hp := pR i
    rcases hi8 with rfl | rfl | rfl | rfl | rfl | rfl | rfl | rfl
    all_goals
      simp only [List.getElem?_cons_zero, List.getElem?_cons_succ, Option.some.injEq] at hp
      conv => whnf
      refine brD_intro (fun h => ?_) (fun h => ?_)
      · conv => whnf
        refine brT_false (decide_eq_false (fun h2 => ?_)) ?_
        · rcases hp with e | e
          · exact h e
          · exact h2 e
        conv => whnf
        exact LoopS.ren [.old 0, .old 1, .old 2, .old 3, .old 4, .old 5, .old 6, .old 7, .old 8, .old 9] (ih _ hlt (by omega)) rfl (by decide) ⟨rfl, rfl, rfl, trivial⟩ ⟨rfl, rfl, rfl, ⟨_, rfl, rfl⟩, ⟨_, rfl, rfl⟩, ⟨_, rfl, rfl⟩, ⟨_, rfl, rfl⟩, trivial⟩
      · conv => whnf
        exact LoopS.ren [.old 0, .old 1, .old 2, .old 3, .old 4, .old 5, .old 6, .old 7, .old 8, .old 9] (ih _ hlt (by omega)) rfl (by decide) ⟨rfl, rfl, rfl, trivial⟩ ⟨rfl, rfl, rfl, ⟨_, rfl, rfl⟩, ⟨_, rfl, rfl⟩, ⟨_, rfl, rfl⟩, ⟨_, rfl, rfl⟩, trivial⟩
  · obtain rfl : i = 8 := by omega
    clear ih
    conv => whnf
    refine cndP_intro (by omega) ?_
    conv => whnf
    rw [show Int.toNat (A2.length : Int) - 0 = A2.length by simp]
    refine callX hS2 [.old 0, .old 1, .view 8 0, .view 5 0] rfl rfl rfl rfl ⟨⟨_, rfl, preLe pA.1 pA.2, preTake pA.1⟩, ⟨_, rfl, preLe pA.1 pA.2, preTake pA.1⟩, trivial⟩ ?_
    conv => whnf
    refine cndP_intro (by omega) ?_
    conv => whnf
    rw [show Int.toNat (H2.length : Int) - 0 = H2.length by simp]
    refine callX hS1 [.old 0, .old 1, .view 7 0, .view 4 0] rfl rfl rfl rfl ⟨⟨_, rfl, preLe pH.1 pH.2, preTake pH.1⟩, ⟨_, rfl, preLe pH.1 pH.2, preTake pH.1⟩, trivial⟩ ?_
    conv => whnf
    refine callX hK [.old 0, .old 1] rfl rfl rfl rfl ⟨rfl, trivial⟩ ?_
    conv => whnf
    exact retX [.old 0, .old 1, .old 2, .old 3, .old 4, .old 5] (.inl rfl) rfl rfl rfl trivial
theorem fn7 (f g : List Ins) (c : Cas) (hR : c.R.length = 8) (za zb : Int) (hza : 0 ≤ za ∧ za < 256) (hzb : 0 ≤ zb ∧ zb < 256) : FnOK Tryd.prog gidD 7 6 [.sl 2 0 f.length, .sl 3 0 g.length, caV 4 5 c, .val (.int .u8 za), .val (.int .u8 zb)]
    (hl [(0, .ro shapesV), (2, .ro (insCells f)), (3, .ro (insCells g)), (4, .ro (nums c.H)), (5, .ro (nums c.A))]) (vb true) (hl []) 6 := by
  refine FnOK.of ok7 (Nat.le_refl _) (Nat.le_refl _) fun M => ?_
  obtain ⟨a, rfl⟩ := toNat_nonneg hza.1
  obtain ⟨b, rfl⟩ := toNat_nonneg hzb.1
  have wa : IntKind.i64.wrap (a : Int) = (a : Int) := w64 (by omega) (by omega)
  have wb : IntKind.i64.wrap (b : Int) = (b : Int) := w64 (by omega) (by omega)
  have hG := fn28 f g c hR
  have hC1n := fn30n f g c hR
  have hC1y := fn30 f g c hR
  have hK := fn29
  by_cases hg : great20 f g c = true
  · rw [hg] at hG
    obtain ⟨R, H, A, fuel⟩ := c
    simp only at hR
    obtain ⟨r0, r1, r2, r3, r4, r5, r6, r7, hRe⟩ := list8 hR
    unfold caV caC at hG ⊢
    simp only at hG ⊢
    rw [hRe] at hG ⊢
    conv => whnf
    refine callX hG [.old 0, .old 1, .old 2, .old 3, .old 4, .old 5] rfl rfl rfl rfl trivial ?_
    conv => whnf
    refine callX hK [.old 0, .old 1] rfl rfl rfl rfl ⟨rfl, trivial⟩ ?_
    conv => whnf
    exact retX [.old 0, .old 1, .old 2, .old 3, .old 4, .old 5] (.inl rfl) rfl rfl rfl trivial
  have hg : great20 f g c = false := by simpa using hg
  rw [hg] at hG
  obtain ⟨_, _, hH, hA⟩ := great20_len hg
  cases hf : (fair f c && fair g c)
  · have hC1 := hC1n hf
    clear hC1n hC1y hf
    obtain ⟨R, H, A, fuel⟩ := c
    simp only at hR
    obtain ⟨r0, r1, r2, r3, r4, r5, r6, r7, hRe⟩ := list8 hR
    unfold caV caC at hG hC1 ⊢
    simp only at hG hC1 ⊢
    rw [hRe] at hG hC1 ⊢
    conv => whnf
    refine callX hG [.old 0, .old 1, .old 2, .old 3, .old 4, .old 5] rfl rfl rfl rfl trivial ?_
    conv => whnf
    refine callX hC1 [.old 0, .old 1, .old 2, .old 3, .old 4, .old 5] rfl rfl rfl rfl ⟨rfl, rfl, rfl, rfl, rfl, trivial⟩ ?_
    conv => whnf
    refine callX hK [.old 0, .old 1] rfl rfl rfl rfl ⟨rfl, trivial⟩ ?_
    conv => whnf
    exact retX [.old 0, .old 1, .old 2, .old 3, .old 4, .old 5] (.inl rfl) rfl rfl rfl trivial
  simp only [Bool.and_eq_true] at hf
  have hC1 := hC1y hf.1 hf.2
  clear hC1n hC1y
  have h0 : 0 ≤ c.fuel := by have := hf.1; simp only [fair, caseOk, Bool.and_eq_true, decide_eq_true_eq] at this; exact this.2.2.2.1
  have hsm := shrinkE_small f g c h0
  have hkn := shrinkE_none f g c h0
  have hls := fun h => shrinkE_least f g c h0 h
  have hTy := fun (h : (a : Int) ≤ c.fuel) => fn31 f g { c with fuel := a } hR (fair_small (small_F c h) hf.1) (fair_small (small_F c h) hf.2)
  have hx0 : 0 ≤ (shrinkE f g c).1.fuel := hsm.fuel.2 h0
  have hsz : Small ⟨c.R, c.H, c.A.take b, (shrinkE f g c).1.fuel⟩ c := by
    obtain ⟨n, hn⟩ := toNat_nonneg hx0
    have h1 := small_F c (n := n) (by rw [← hn]; exact hsm.fuel.1)
    rw [← hn] at h1
    exact (small_A { c with fuel := (shrinkE f g c).1.fuel } b).trans h1
  have hTz := fn31 f g ⟨c.R, c.H, c.A.take b, (shrinkE f g c).1.fuel⟩ hR (fair_small hsz hf.1) (fair_small hsz hf.2)
  generalize shrinkE f g c = e at hC1 hsm hkn hls hTz
  obtain ⟨x, kd⟩ := e
  simp only at hsm hC1 hkn hls hTz
  have hxR : x.R.length = 8 := hsm.R.1.trans hR
  obtain ⟨R, H, A, fuel⟩ := c
  obtain ⟨Q, H2, A2, fuel2⟩ := x
  have pA := hsm.A
  have pF := hsm.fuel.1
  simp only at hR hxR pA pF hH hA hls hTz hTy hkn
  by_cases hkd : kd = 0
  · subst hkd
    clear hls hTz hTy
    obtain ⟨r0, r1, r2, r3, r4, r5, r6, r7, hRe⟩ := list8 hR
    obtain ⟨q0, q1, q2, q3, q4, q5, q6, q7, hQe⟩ := list8 hxR
    unfold caV caC at hG hC1 ⊢
    simp only at hG hC1 ⊢
    rw [hRe] at hG hC1 ⊢
    rw [hQe] at hC1
    conv => whnf
    refine callX hG [.old 0, .old 1, .old 2, .old 3, .old 4, .old 5] rfl rfl rfl rfl trivial ?_
    conv => whnf
    refine callX hC1 [.old 0, .old 1, .old 2, .old 3, .old 4, .old 5] rfl rfl rfl rfl ⟨rfl, rfl, rfl, rfl, rfl, trivial⟩ ?_
    conv => whnf
    refine callX hK [.old 0, .old 1] rfl rfl rfl rfl ⟨rfl, trivial⟩ ?_
    conv => whnf
    exact retX [.old 0, .old 1, .old 2, .old 3, .old 4, .old 5] (.inl rfl) rfl rfl rfl trivial
  obtain ⟨ly, lz⟩ := hls (fun h => hkd (hkn.2 h))
  clear hls
  obtain ⟨r0, r1, r2, r3, r4, r5, r6, r7, hRe⟩ := list8 hR
  obtain ⟨q0, q1, q2, q3, q4, q5, q6, q7, hQe⟩ := list8 hxR
  unfold caV caC at hG hC1 hTz ⊢
  simp only at hG hC1 hTz ⊢
  rw [hRe] at hG hC1 hTz ⊢
  rw [hQe] at hC1
  conv => whnf
  refine callX hG [.old 0, .old 1, .old 2, .old 3, .old 4, .old 5] rfl rfl rfl rfl trivial ?_
  conv => whnf
  refine callX hC1 [.old 0, .old 1, .old 2, .old 3, .old 4, .old 5] rfl rfl rfl rfl ⟨rfl, rfl, rfl, rfl, rfl, trivial⟩ ?_
  conv => whnf
  refine brT_false (decide_eq_false hkd) ?_
  conv => whnf
  rw [wa, wb]
  conv => whnf
  refine brD_intro (fun hb => ?_) (fun hb => ?_)
  · have hbA : b ≤ A.length := by have := pA.2; omega
    rw [← hRe, lz b (by omega), hRe] at hTz
    simp only [List.length_take] at hTz
    rw [Nat.min_eq_left hbA] at hTz
    conv => whnf
    rw [wb]
    refine cndP_intro (by omega) ?_
    conv => whnf
    repeat (refine cndP_intro (by omega) ?_; conv => whnf)
    rw [show Int.toNat (b : Int) - 0 = b by simp]
    refine callX hTz [.old 0, .old 1, .old 2, .old 3, .old 4, .view 5 0] rfl rfl rfl rfl ⟨rfl, rfl, rfl, rfl, ⟨_, rfl, takeLe A b, subTake A b⟩, trivial⟩ ?_
    conv => whnf
    refine brD_intro (fun h => ?_) (fun h => ?_)
    · conv => whnf
      refine callX hK [.old 0, .old 1] rfl rfl rfl rfl ⟨rfl, trivial⟩ ?_
      conv => whnf
      exact retX [.old 0, .old 1, .old 2, .old 3, .old 4, .old 5] (.inl rfl) rfl rfl rfl trivial
    · have hT := hTy (by omega)
      rw [ly a (by omega)] at hT
      unfold caV caC at hT
      simp only at hT
      rw [hRe] at hT
      conv => whnf
      refine callX hT [.old 0, .old 1, .old 2, .old 3, .old 4, .old 5] rfl rfl rfl rfl ⟨rfl, rfl, rfl, rfl, rfl, trivial⟩ ?_
      conv => whnf
      refine callX hK [.old 0, .old 1] rfl rfl rfl rfl ⟨rfl, trivial⟩ ?_
      conv => whnf
      exact retX [.old 0, .old 1, .old 2, .old 3, .old 4, .old 5] (.inl rfl) rfl rfl rfl trivial
  · conv => whnf
    refine brD_intro (fun h => ?_) (fun h => ?_)
    · conv => whnf
      refine callX hK [.old 0, .old 1] rfl rfl rfl rfl ⟨rfl, trivial⟩ ?_
      conv => whnf
      exact retX [.old 0, .old 1, .old 2, .old 3, .old 4, .old 5] (.inl rfl) rfl rfl rfl trivial
    · have hT := hTy (by omega)
      rw [ly a (by omega)] at hT
      unfold caV caC at hT
      simp only at hT
      rw [hRe] at hT
      conv => whnf
      refine callX hT [.old 0, .old 1, .old 2, .old 3, .old 4, .old 5] rfl rfl rfl rfl ⟨rfl, rfl, rfl, rfl, rfl, trivial⟩ ?_
      conv => whnf
      refine callX hK [.old 0, .old 1] rfl rfl rfl rfl ⟨rfl, trivial⟩ ?_
      conv => whnf
      exact retX [.old 0, .old 1, .old 2, .old 3, .old 4, .old 5] (.inl rfl) rfl rfl rfl trivial
end Go.Abs
