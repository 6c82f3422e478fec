/- The law AllocPuts. -/
import Derived.Test.YtfeokfaccaenhaaDoorS1
import Derived.Test.YtfeokfaccaenhaaDoorK22
set_option linter.unusedVariables false
set_option linter.unusedSimpArgs false
namespace Go.Abs
open Go.Proofs
set_option maxRecDepth 100000
set_option maxHeartbeats 1000000
-- joinery/joinerylaw23.AllocPuts
def c3 : C := .seq (.reg none [0, 1, 2] [⟨some 6, none, .mv (.const (.bool false))⟩]) (.seq (.seq (.reg none [0, 1, 2, 18] [⟨some 11, none, .mv (.tmp 0)⟩, ⟨some 12, none, .len (.tmp 11)⟩, ⟨some 13, none, .bin .gtr (.tmp 12) (.const (.int .i64 300))⟩, ⟨some 14, none, .mv (.tmp 13)⟩, ⟨some 15, some (14, false), .mv (.tmp 2)⟩, ⟨some 16, some (14, false), .len (.tmp 15)⟩, ⟨some 17, some (14, false), .bin .gtr (.tmp 16) (.const (.int .i64 300))⟩, ⟨some 18, none, .pick (.tmp 14) (.const (.bool true)) (.tmp 17)⟩]) (.cond (.tmp 18) (.seq (.reg none [6] [⟨some 19, none, .call 22 []⟩, ⟨some 6, none, .mv (.tmp 19)⟩]) (.ret)) (.skip))) (.seq (.reg none [0, 1, 2, 7, 8] [⟨some 21, none, .mv (.tmp 0)⟩, ⟨some 22, none, .mv (.tmp 1)⟩, ⟨some 23, none, .mv (.tmp 2)⟩, ⟨some 24, none, .call 23 [.tmp 21, .tmp 22, .tmp 23]⟩, ⟨some 20, none, .mv (.tmp 24)⟩, ⟨some 25, none, .ext (.tmp 20) 0⟩, ⟨some 26, none, .ext (.tmp 20) 1⟩, ⟨some 7, none, .mv (.tmp 25)⟩, ⟨some 8, none, .mv (.tmp 26)⟩]) (.seq (.reg none [7, 8, 9, 10] [⟨some 28, none, .mv (.tmp 0)⟩, ⟨some 29, none, .mv (.tmp 1)⟩, ⟨some 30, none, .mv (.tmp 2)⟩, ⟨some 31, none, .call 24 [.tmp 28, .tmp 29, .tmp 30]⟩, ⟨some 27, none, .mv (.tmp 31)⟩, ⟨some 32, none, .ext (.tmp 27) 0⟩, ⟨some 33, none, .ext (.tmp 27) 1⟩, ⟨some 9, none, .mv (.tmp 32)⟩, ⟨some 10, none, .mv (.tmp 33)⟩]) (.seq (.reg none [6] [⟨some 34, none, .mv (.tmp 7)⟩, ⟨some 35, none, .mv (.tmp 9)⟩, ⟨some 36, none, .call 25 [.tmp 34, .tmp 35]⟩, ⟨some 37, none, .mv (.tmp 36)⟩, ⟨some 38, some (37, true), .mv (.tmp 8)⟩, ⟨some 39, some (37, true), .mv (.tmp 10)⟩, ⟨some 40, some (37, true), .bin .eql (.tmp 38) (.tmp 39)⟩, ⟨some 41, none, .pick (.tmp 37) (.tmp 40) (.const (.bool false))⟩, ⟨some 42, none, .mv (.tmp 41)⟩, ⟨some 43, some (42, true), .mv (.tmp 8)⟩, ⟨some 44, some (42, true), .bin .neq (.tmp 43) (.const (.int .i64 0))⟩, ⟨some 45, some (42, true), .mv (.tmp 44)⟩, ⟨some 46, some (45, false), .mv (.tmp 7)⟩, ⟨some 47, some (45, false), .call 26 [.tmp 46]⟩, ⟨some 48, some (42, true), .pick (.tmp 45) (.const (.bool true)) (.tmp 47)⟩, ⟨some 49, none, .pick (.tmp 42) (.tmp 48) (.const (.bool false))⟩, ⟨some 50, none, .mv (.tmp 49)⟩, ⟨some 51, some (50, true), .call 22 []⟩, ⟨some 52, none, .pick (.tmp 50) (.tmp 51) (.const (.bool false))⟩, ⟨some 6, none, .mv (.tmp 52)⟩]) (.ret)))))
theorem ok3 : tabOk Tryd.prog 3 c3 [.tmp 6] 3 = true := by kernel_rfl
theorem Put_len (f l : List Ins) (at_ : Int) : (PutE f at_ l).1.length ≤ f.length + l.length := by
  unfold PutE
  split
  · split
    · unfold putE; split
      · simp
      · simp [putL]; omega
    · simp
  · simp
theorem fn3 (f l : List Ins) (at_ : Int) : FnOK Tryd.prog gidD 3 4 [.sl 2 0 f.length, vi at_, .sl 3 0 l.length]
    (Abs.hl [(0, .ro shapesV), (2, .ro (insCells f)), (3, .ro (insCells l))]) (vb true) (Abs.hl []) 4 := by
  refine FnOK.of ok3 (Nat.le_refl _) (Nat.le_refl _) fun M => ?_
  conv => whnf
  by_cases hbig : f.length ≤ 300 ∧ l.length ≤ 300
  · obtain ⟨hf, hl⟩ := hbig
    refine brT_false (decide_eq_false (by omega)) ?_
    conv => whnf
    refine brT_false (decide_eq_false (by omega)) ?_
    conv => whnf
    refine callX (fn23 f l at_ hf hl) [.old 0, .old 1, .old 2, .old 3] rfl rfl rfl rfl ⟨rfl, rfl, rfl, trivial⟩ ?_
    conv => whnf
    refine callX (fn24 f l at_ hf hl) [.old 0, .old 1, .old 2, .old 3] rfl rfl rfl rfl ⟨rfl, rfl, trivial⟩ ?_
    conv => whnf
    have hPl := Put_len f l at_
    refine callX (fn25 (PutE f at_ l).1 (PutE f at_ l).1 (by omega)) [.old 0, .old 1, .view _ 0, .view _ 0] rfl rfl rfl rfl ⟨⟨_, rfl, by rw [Nat.zero_add]; exact Nat.le_of_eq (vals_length _).symm, subAll _ _⟩, ⟨_, rfl, by rw [Nat.zero_add]; exact Nat.le_of_eq (vals_length _).symm, subAll _ _⟩, trivial⟩ ?_
    conv => whnf
    refine brT_true (decide_eq_true rfl) ?_
    conv => whnf
    refine brT_true (decide_eq_true rfl) ?_
    conv => whnf
    (first | refine brD_intro (fun h => ?_) (fun h => ?_) | refine brT_intro (fun h => ?_) (fun h => ?_)) <;> conv => whnf
    · refine callX fn22 [.old 0, .old 1] rfl rfl rfl rfl ⟨rfl, trivial⟩ ?_
      conv => whnf
      exact retX [.old 0, .old 1, .old 2, .old 3] (.inl rfl) rfl rfl rfl trivial
    · refine callX (fn26 (PutE f at_ l).1) [.old 0, .old 1, .view _ 0] rfl rfl rfl rfl ⟨rfl, ⟨_, rfl, by rw [Nat.zero_add]; exact Nat.le_of_eq (vals_length _).symm, subAll _ _⟩, trivial⟩ ?_
      rw [Put_right (by simpa using h)]
      conv => whnf
      refine callX fn22 [.old 0, .old 1] rfl rfl rfl rfl ⟨rfl, trivial⟩ ?_
      conv => whnf
      exact retX [.old 0, .old 1, .old 2, .old 3] (.inl rfl) rfl rfl rfl trivial
  · skip
    by_cases hf : (f.length : Int) > 300
    · refine brT_true (decide_eq_true hf) ?_
      conv => whnf
      refine callX fn22 [.old 0, .old 1] rfl rfl rfl rfl ⟨rfl, trivial⟩ ?_
      conv => whnf
      exact retX [.old 0, .old 1, .old 2, .old 3] (.inl rfl) rfl rfl rfl trivial
    · refine brT_false (decide_eq_false hf) ?_
      conv => whnf
      refine brT_true (decide_eq_true (by omega)) ?_
      conv => whnf
      refine callX fn22 [.old 0, .old 1] rfl rfl rfl rfl ⟨rfl, trivial⟩ ?_
      conv => whnf
      exact retX [.old 0, .old 1, .old 2, .old 3] (.inl rfl) rfl rfl rfl trivial
end Go.Abs
