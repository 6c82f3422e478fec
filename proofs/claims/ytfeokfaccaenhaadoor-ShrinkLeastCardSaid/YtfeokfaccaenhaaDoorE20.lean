/- Contracts: arithmetic. -/
import Derived.Test.YtfeokfaccaenhaaDoorM0
set_option linter.unusedVariables false
set_option linter.unusedSimpArgs false
namespace Go.Abs
open Go.Proofs
set_option maxRecDepth 100000
set_option maxHeartbeats 1000000
-- joinery/num.flag
def c190 : C := .seq (.reg none [0] [⟨some 2, none, .mv (.const (.int .i64 0))⟩]) (.seq (.seq (.reg none [3] [⟨some 3, none, .mv (.tmp 0)⟩]) (.cond (.tmp 3) (.seq (.reg none [2] [⟨some 2, none, .mv (.const (.int .i64 1))⟩]) (.ret)) (.skip))) (.seq (.reg none [2] [⟨some 2, none, .mv (.const (.int .i64 0))⟩]) (.ret)))
theorem ok190 : tabOk Tryd.prog 190 c190 [.tmp 2] 1 = true := by kernel_rfl
-- joinery/num.deeds
def c178 : C := .seq (.reg none [] [⟨some 0, none, .mv (.const (.map none))⟩]) (.seq (.reg none [0] [⟨some 1, none, .mmap⟩, ⟨none, none, .mup (.tmp 1) (.const (.int .i64 4)) (.func 182)⟩, ⟨none, none, .mup (.tmp 1) (.const (.int .i64 5)) (.func 183)⟩, ⟨none, none, .mup (.tmp 1) (.const (.int .i64 6)) (.func 184)⟩, ⟨none, none, .mup (.tmp 1) (.const (.int .i64 7)) (.func 185)⟩, ⟨none, none, .mup (.tmp 1) (.const (.int .i64 8)) (.func 186)⟩, ⟨none, none, .mup (.tmp 1) (.const (.int .i64 9)) (.func 187)⟩, ⟨none, none, .mup (.tmp 1) (.const (.int .i64 10)) (.func 188)⟩, ⟨none, none, .mup (.tmp 1) (.const (.int .i64 11)) (.func 189)⟩, ⟨none, none, .mup (.tmp 1) (.const (.int .i64 12)) (.func 191)⟩, ⟨some 2, none, .mv (.tmp 1)⟩, ⟨some 0, none, .mv (.tmp 2)⟩]) (.ret))
theorem ok178 : tabOk Tryd.prog 178 c178 [.tmp 0] 0 = true := by kernel_rfl
-- joinery/num.deeds$1
def c182 : C := .seq (.reg none [0, 1] [⟨some 4, none, .mv (.const (.int .i64 0))⟩]) (.seq (.reg none [4] [⟨some 5, none, .mv (.tmp 0)⟩, ⟨some 6, none, .mv (.tmp 1)⟩, ⟨some 7, none, .bin .add (.tmp 5) (.tmp 6)⟩, ⟨some 4, none, .mv (.tmp 7)⟩]) (.ret))
theorem ok182 : tabOk Tryd.prog 182 c182 [.tmp 4] 2 = true := by kernel_rfl
-- joinery/num.deeds$2
def c183 : C := .seq (.reg none [0, 1] [⟨some 4, none, .mv (.const (.int .i64 0))⟩]) (.seq (.reg none [4] [⟨some 5, none, .mv (.tmp 0)⟩, ⟨some 6, none, .mv (.tmp 1)⟩, ⟨some 7, none, .bin .sub (.tmp 5) (.tmp 6)⟩, ⟨some 4, none, .mv (.tmp 7)⟩]) (.ret))
theorem ok183 : tabOk Tryd.prog 183 c183 [.tmp 4] 2 = true := by kernel_rfl
-- joinery/num.deeds$3
def c184 : C := .seq (.reg none [0, 1] [⟨some 4, none, .mv (.const (.int .i64 0))⟩]) (.seq (.reg none [4] [⟨some 5, none, .mv (.tmp 0)⟩, ⟨some 6, none, .mv (.tmp 1)⟩, ⟨some 7, none, .bin .mul (.tmp 5) (.tmp 6)⟩, ⟨some 4, none, .mv (.tmp 7)⟩]) (.ret))
theorem ok184 : tabOk Tryd.prog 184 c184 [.tmp 4] 2 = true := by kernel_rfl
-- joinery/num.deeds$4
def c185 : C := .seq (.reg none [0, 1] [⟨some 4, none, .mv (.const (.int .i64 0))⟩]) (.seq (.reg none [4] [⟨some 5, none, .mv (.tmp 0)⟩, ⟨some 6, none, .mv (.tmp 1)⟩, ⟨some 7, none, .bin .quo (.tmp 5) (.tmp 6)⟩, ⟨some 4, none, .mv (.tmp 7)⟩]) (.ret))
theorem ok185 : tabOk Tryd.prog 185 c185 [.tmp 4] 2 = true := by kernel_rfl
-- joinery/num.deeds$5
def c186 : C := .seq (.reg none [0, 1] [⟨some 4, none, .mv (.const (.int .i64 0))⟩]) (.seq (.reg none [4] [⟨some 5, none, .mv (.tmp 0)⟩, ⟨some 6, none, .mv (.tmp 1)⟩, ⟨some 7, none, .bin .and (.tmp 5) (.tmp 6)⟩, ⟨some 4, none, .mv (.tmp 7)⟩]) (.ret))
theorem ok186 : tabOk Tryd.prog 186 c186 [.tmp 4] 2 = true := by kernel_rfl
-- joinery/num.deeds$6
def c187 : C := .seq (.reg none [0, 1] [⟨some 4, none, .mv (.const (.int .i64 0))⟩]) (.seq (.reg none [4] [⟨some 5, none, .mv (.tmp 0)⟩, ⟨some 6, none, .mv (.tmp 1)⟩, ⟨some 7, none, .bin .or (.tmp 5) (.tmp 6)⟩, ⟨some 4, none, .mv (.tmp 7)⟩]) (.ret))
theorem ok187 : tabOk Tryd.prog 187 c187 [.tmp 4] 2 = true := by kernel_rfl
-- joinery/num.deeds$7
def c188 : C := .seq (.reg none [0, 1] [⟨some 4, none, .mv (.const (.int .i64 0))⟩]) (.seq (.reg none [4] [⟨some 5, none, .mv (.tmp 0)⟩, ⟨some 6, none, .mv (.tmp 1)⟩, ⟨some 7, none, .bin .xor (.tmp 5) (.tmp 6)⟩, ⟨some 4, none, .mv (.tmp 7)⟩]) (.ret))
theorem ok188 : tabOk Tryd.prog 188 c188 [.tmp 4] 2 = true := by kernel_rfl
-- joinery/num.deeds$8
def c189 : C := .seq (.reg none [0, 1] [⟨some 4, none, .mv (.const (.int .i64 0))⟩]) (.seq (.reg none [4] [⟨some 5, none, .mv (.tmp 0)⟩, ⟨some 6, none, .mv (.tmp 1)⟩, ⟨some 7, none, .bin .lss (.tmp 5) (.tmp 6)⟩, ⟨some 8, none, .call 190 [.tmp 7]⟩, ⟨some 4, none, .mv (.tmp 8)⟩]) (.ret))
theorem ok189 : tabOk Tryd.prog 189 c189 [.tmp 4] 2 = true := by kernel_rfl
-- joinery/num.deeds$9
def c191 : C := .seq (.reg none [0, 1] [⟨some 4, none, .mv (.const (.int .i64 0))⟩]) (.seq (.reg none [4] [⟨some 5, none, .mv (.tmp 0)⟩, ⟨some 6, none, .mv (.tmp 1)⟩, ⟨some 7, none, .bin .eql (.tmp 5) (.tmp 6)⟩, ⟨some 8, none, .call 190 [.tmp 7]⟩, ⟨some 4, none, .mv (.tmp 8)⟩]) (.ret))
theorem ok191 : tabOk Tryd.prog 191 c191 [.tmp 4] 2 = true := by kernel_rfl
-- joinery/num.Do
def c172 : C := .seq (.reg none [0, 1, 2] [⟨some 6, none, .mv (.const (.int .i64 0))⟩, ⟨some 7, none, .mv (.const (.int .i64 0))⟩]) (.seq (.reg none [0, 1, 2, 8] [⟨some 9, none, .call 178 []⟩, ⟨some 10, none, .mv (.tmp 0)⟩, ⟨some 11, none, .lkp (.nilFunc) false (.tmp 9) (.tmp 10)⟩, ⟨some 8, none, .mv (.tmp 11)⟩]) (.seq (.block 0 (.seq (.reg none [0, 1, 2, 8, 12] [⟨some 13, none, .mv (.tmp 8)⟩, ⟨some 14, none, .eqf false (.tmp 13) (.const (.nilFunc))⟩, ⟨some 12, none, .mv (.tmp 14)⟩]) (.cond (.tmp 12) (.seq (.reg none [6, 7] [⟨some 6, none, .mv (.const (.int .i64 0))⟩, ⟨some 7, none, .mv (.const (.int .i64 2))⟩]) (.ret)) (.seq (.reg none [1, 2, 8, 15] [⟨some 16, none, .mv (.tmp 0)⟩, ⟨some 17, none, .bin .eql (.tmp 16) (.const (.int .i64 7))⟩, ⟨some 18, none, .mv (.tmp 17)⟩, ⟨some 19, some (18, true), .mv (.tmp 2)⟩, ⟨some 20, some (18, true), .bin .eql (.tmp 19) (.const (.int .i64 0))⟩, ⟨some 21, none, .pick (.tmp 18) (.tmp 20) (.const (.bool false))⟩, ⟨some 15, none, .mv (.tmp 21)⟩]) (.cond (.tmp 15) (.seq (.reg none [6, 7] [⟨some 6, none, .mv (.const (.int .i64 0))⟩, ⟨some 7, none, .mv (.const (.int .i64 3))⟩]) (.ret)) (.skip)))))) (.seq (.reg none [6, 7] [⟨some 22, none, .mv (.tmp 8)⟩, ⟨some 23, none, .mv (.tmp 1)⟩, ⟨some 24, none, .mv (.tmp 2)⟩, ⟨some 25, none, .callv (.tmp 22) [.tmp 23, .tmp 24]⟩, ⟨some 6, none, .mv (.tmp 25)⟩, ⟨some 7, none, .mv (.const (.int .i64 0))⟩]) (.ret))))
theorem ok172 : tabOk Tryd.prog 172 c172 [.tmp 6, .tmp 7] 3 = true := by kernel_rfl
theorem fn190 (b : Bool) : FnOK Tryd.prog gidD 190 2 [vb b] (hl []) (vi (if b = true then 1 else 0)) (hl []) 2 := by
  refine FnOK.of ok190 (Nat.le_refl _) (Nat.le_refl _) fun M => ?_
  cases b <;> conv => whnf
  all_goals exact retX [.old 0, .old 1] (.inl rfl) rfl rfl rfl trivial
def deedsV : List (Value × Value) := [(i64 4, .func (.func 182) #[] #[]), (i64 5, .func (.func 183) #[] #[]), (i64 6, .func (.func 184) #[] #[]), (i64 7, .func (.func 185) #[] #[]), (i64 8, .func (.func 186) #[] #[]), (i64 9, .func (.func 187) #[] #[]), (i64 10, .func (.func 188) #[] #[]), (i64 11, .func (.func 189) #[] #[]), (i64 12, .func (.func 191) #[] #[])]
theorem fn178 : FnOK Tryd.prog gidD 178 2 [] (hl []) (.mp 2) (hl [(2, .mp deedsV)]) 3 := by
  refine FnOK.of ok178 (Nat.le_refl _) (by decide) fun M => ?_
  conv => whnf
  exact retX [.old 0, .old 1, .old 2] (.inl rfl) rfl rfl rfl ⟨rfl, trivial⟩
theorem fn182 (a b : Int) : FnOK Tryd.prog gidD 182 2 [vi a, vi b] (hl []) (vi (numDo 4 a b).1) (hl []) 2 := by
  refine FnOK.of ok182 (Nat.le_refl _) (Nat.le_refl _) fun M => ?_
  conv => whnf
  exact retX [.old 0, .old 1] (.inl rfl) rfl rfl rfl trivial
theorem fn183 (a b : Int) : FnOK Tryd.prog gidD 183 2 [vi a, vi b] (hl []) (vi (numDo 5 a b).1) (hl []) 2 := by
  refine FnOK.of ok183 (Nat.le_refl _) (Nat.le_refl _) fun M => ?_
  conv => whnf
  exact retX [.old 0, .old 1] (.inl rfl) rfl rfl rfl trivial
theorem fn184 (a b : Int) : FnOK Tryd.prog gidD 184 2 [vi a, vi b] (hl []) (vi (numDo 6 a b).1) (hl []) 2 := by
  refine FnOK.of ok184 (Nat.le_refl _) (Nat.le_refl _) fun M => ?_
  conv => whnf
  exact retX [.old 0, .old 1] (.inl rfl) rfl rfl rfl trivial
theorem binV_quo {a b : Int} (h : b ≠ 0) : binV .quo (i64 a) (i64 b) = some (i64 (IntKind.i64.wrap (a.tdiv b))) := by simp [binV, i64, h]
theorem fn185 (a b : Int) (hb : b ≠ 0) : FnOK Tryd.prog gidD 185 2 [vi a, vi b] (hl []) (vi (numDo 7 a b).1) (hl []) 2 := by
  refine FnOK.of ok185 (Nat.le_refl _) (Nat.le_refl _) fun M => ?_
  have hd : (numDo 7 a b).1 = IntKind.i64.wrap (a.tdiv b) := by simp [numDo, hb]
  rw [hd]
  conv => whnf
  rw [binV_quo hb]
  conv => whnf
  exact retX [.old 0, .old 1] (.inl rfl) rfl rfl rfl trivial
theorem fn186 (a b : Int) : FnOK Tryd.prog gidD 186 2 [vi a, vi b] (hl []) (vi (numDo 8 a b).1) (hl []) 2 := by
  refine FnOK.of ok186 (Nat.le_refl _) (Nat.le_refl _) fun M => ?_
  conv => whnf
  exact retX [.old 0, .old 1] (.inl rfl) rfl rfl rfl trivial
theorem fn187 (a b : Int) : FnOK Tryd.prog gidD 187 2 [vi a, vi b] (hl []) (vi (numDo 9 a b).1) (hl []) 2 := by
  refine FnOK.of ok187 (Nat.le_refl _) (Nat.le_refl _) fun M => ?_
  conv => whnf
  exact retX [.old 0, .old 1] (.inl rfl) rfl rfl rfl trivial
theorem fn188 (a b : Int) : FnOK Tryd.prog gidD 188 2 [vi a, vi b] (hl []) (vi (numDo 10 a b).1) (hl []) 2 := by
  refine FnOK.of ok188 (Nat.le_refl _) (Nat.le_refl _) fun M => ?_
  conv => whnf
  exact retX [.old 0, .old 1] (.inl rfl) rfl rfl rfl trivial
theorem fn189 (a b : Int) : FnOK Tryd.prog gidD 189 2 [vi a, vi b] (hl []) (vi (numDo 11 a b).1) (hl []) 2 := by
  refine FnOK.of ok189 (Nat.le_refl _) (Nat.le_refl _) fun M => ?_
  conv => whnf
  refine callX (fn190 (decide (a < b))) [.old 0, .old 1] rfl rfl rfl rfl trivial ?_
  conv => whnf
  exact retX [.old 0, .old 1] (.inl rfl) rfl (congrArg (fun z => some (vi z)) (by simp [numDo])) rfl trivial
theorem fn191 (a b : Int) : FnOK Tryd.prog gidD 191 2 [vi a, vi b] (hl []) (vi (numDo 12 a b).1) (hl []) 2 := by
  refine FnOK.of ok191 (Nat.le_refl _) (Nat.le_refl _) fun M => ?_
  conv => whnf
  refine callX (fn190 (decide (a = b))) [.old 0, .old 1] rfl rfl rfl rfl trivial ?_
  conv => whnf
  exact retX [.old 0, .old 1] (.inl rfl) rfl (congrArg (fun z => some (vi z)) (by simp [numDo])) rfl trivial
theorem fn172 {op : Int} (a b : Int) (h1 : 1 ≤ op) (h2 : op ≤ 18) : FnOK Tryd.prog gidD 172 2 [vi op, vi a, vi b] (hl []) (.tup [vi (numDo op a b).1, vi (numDo op a b).2]) (hl []) 2 := by
  refine FnOK.of ok172 (Nat.le_refl _) (Nat.le_refl _) fun M => ?_
  rcases op_cases op with h | h | rfl | rfl | rfl | rfl | rfl | rfl | rfl | rfl | rfl | rfl | rfl | rfl | rfl | rfl | rfl | rfl | rfl | rfl
  · omega
  · omega
  all_goals
    conv => whnf
    refine callX fn178 [.old 0, .old 1] rfl rfl rfl rfl trivial ?_
    conv => whnf
  case' inr.inr.inr.inr.inr.inr.inr.inr.inl =>
    by_cases hb : b = 0
    · refine brT_true (decide_eq_true hb) ?_
      conv => whnf
      exact retX [.old 0, .old 1] (.inl rfl) rfl (by simp [numDo, hb]; rfl) rfl trivial
    refine brT_false (decide_eq_false hb) ?_
    conv => whnf
    refine callX (fn185 a b hb) [.old 0, .old 1] rfl rfl rfl rfl trivial ?_
    conv => whnf
    exact retX [.old 0, .old 1] (.inl rfl) rfl (by simp [numDo, hb]; rfl) rfl trivial
  all_goals first
    | exact retX [.old 0, .old 1] (.inl rfl) rfl rfl rfl trivial
    | (refine callX (fn182 a b) [.old 0, .old 1] rfl rfl rfl rfl trivial ?_; (conv => whnf); exact retX [.old 0, .old 1] (.inl rfl) rfl rfl rfl trivial)
    | (refine callX (fn183 a b) [.old 0, .old 1] rfl rfl rfl rfl trivial ?_; (conv => whnf); exact retX [.old 0, .old 1] (.inl rfl) rfl rfl rfl trivial)
    | (refine callX (fn184 a b) [.old 0, .old 1] rfl rfl rfl rfl trivial ?_; (conv => whnf); exact retX [.old 0, .old 1] (.inl rfl) rfl rfl rfl trivial)
    | (refine callX (fn186 a b) [.old 0, .old 1] rfl rfl rfl rfl trivial ?_; (conv => whnf); exact retX [.old 0, .old 1] (.inl rfl) rfl rfl rfl trivial)
    | (refine callX (fn187 a b) [.old 0, .old 1] rfl rfl rfl rfl trivial ?_; (conv => whnf); exact retX [.old 0, .old 1] (.inl rfl) rfl rfl rfl trivial)
    | (refine callX (fn188 a b) [.old 0, .old 1] rfl rfl rfl rfl trivial ?_; (conv => whnf); exact retX [.old 0, .old 1] (.inl rfl) rfl rfl rfl trivial)
    | (refine callX (fn189 a b) [.old 0, .old 1] rfl rfl rfl rfl trivial ?_; (conv => whnf); exact retX [.old 0, .old 1] (.inl rfl) rfl rfl rfl trivial)
    | (refine callX (fn191 a b) [.old 0, .old 1] rfl rfl rfl rfl trivial ?_; (conv => whnf); exact retX [.old 0, .old 1] (.inl rfl) rfl rfl rfl trivial)
end Go.Abs
