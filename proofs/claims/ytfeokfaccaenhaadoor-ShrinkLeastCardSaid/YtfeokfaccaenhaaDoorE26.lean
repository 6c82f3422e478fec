/- Contracts: how a run begins; a run. -/
import Derived.Test.YtfeokfaccaenhaaDoorE25
import Derived.Test.YtfeokfaccaenhaaDoorM2
set_option linter.unusedVariables false
set_option linter.unusedSimpArgs false
namespace Go.Abs
open Go.Proofs
set_option maxRecDepth 100000
set_option maxHeartbeats 2000000
-- joinery/run.Right
def c138 : C := .seq (.reg none [1] [⟨some 1, none, .box 39 11 (.tmp 0)⟩, ⟨some 2, none, .mv (.const (.bool false))⟩]) (.seq (.reg none [2] [⟨some 3, none, .fa 8 (.tmp 1)⟩, ⟨some 4, none, .ld none (.tmp 3)⟩, ⟨some 5, none, .call 155 [.tmp 4]⟩, ⟨some 6, none, .mv (.tmp 5)⟩, ⟨some 7, some (6, true), .fa 9 (.tmp 1)⟩, ⟨some 8, some (6, true), .ld none (.tmp 7)⟩, ⟨some 9, some (6, true), .len (.tmp 8)⟩, ⟨some 10, some (6, true), .bin .leq (.tmp 9) (.const (.int .i64 5000))⟩, ⟨some 11, none, .pick (.tmp 6) (.tmp 10) (.const (.bool false))⟩, ⟨some 12, none, .mv (.tmp 11)⟩, ⟨some 13, some (12, true), .fa 10 (.tmp 1)⟩, ⟨some 14, some (12, true), .ld none (.tmp 13)⟩, ⟨some 15, some (12, true), .bin .geq (.tmp 14) (.const (.int .i64 0))⟩, ⟨some 16, none, .pick (.tmp 12) (.tmp 15) (.const (.bool false))⟩, ⟨some 17, none, .mv (.tmp 16)⟩, ⟨some 18, some (17, true), .fa 10 (.tmp 1)⟩, ⟨some 19, some (17, true), .ld none (.tmp 18)⟩, ⟨some 20, some (17, true), .bin .leq (.tmp 19) (.const (.int .i64 5000))⟩, ⟨some 21, none, .pick (.tmp 17) (.tmp 20) (.const (.bool false))⟩, ⟨some 2, none, .mv (.tmp 21)⟩]) (.ret))
theorem ok138 : tabOk Tryd.prog 138 c138 [.tmp 2] 1 = true := by kernel_rfl
-- joinery/run.Begin
def c139 : C := .seq (.reg none [1, 2] [⟨some 1, none, .box 39 11 (.tmp 0)⟩, ⟨some 2, none, .new 197 [.bool false, .int .i64 0, .bool false, .int .i64 0, .bool false, .int .i64 0, .bool false, .int .i64 0, .bool false, .int .i64 0, .bool false, .int .i64 0, .bool false, .int .i64 0, .bool false, .int .i64 0, .bool false, .int .i64 0, .bool false, .int .i64 0, .bool false, .int .i64 0, .bool false, .int .i64 0, .bool false, .int .i64 0, .bool false, .int .i64 0, .bool false, .int .i64 0, .bool false, .int .i64 0, .bool false, .int .i64 0, .bool false, .int .i64 0, .bool false, .int .i64 0, .bool false, .int .i64 0, .bool false, .int .i64 0, .bool false, .int .i64 0, .bool false, .int .i64 0, .bool false, .int .i64 0, .slice none 0 0, .int .i64 0, .int .i64 0]⟩]) (.seq (.reg none [1, 2, 3] [⟨some 5, none, .bsl 2 0 1 [.int .i64 0] []⟩, ⟨some 6, none, .fa 8 (.tmp 1)⟩, ⟨some 7, none, .ld none (.tmp 6)⟩, ⟨some 8, none, .app 2 1 (.tmp 5) (.tmp 7)⟩, ⟨some 9, none, .bld 197 [.bool false, .int .i64 0, .bool false, .int .i64 0, .bool false, .int .i64 0, .bool false, .int .i64 0, .bool false, .int .i64 0, .bool false, .int .i64 0, .bool false, .int .i64 0, .bool false, .int .i64 0, .bool false, .int .i64 0, .bool false, .int .i64 0, .bool false, .int .i64 0, .bool false, .int .i64 0, .bool false, .int .i64 0, .bool false, .int .i64 0, .bool false, .int .i64 0, .bool false, .int .i64 0, .bool false, .int .i64 0, .bool false, .int .i64 0, .bool false, .int .i64 0, .bool false, .int .i64 0, .bool false, .int .i64 0, .bool false, .int .i64 0, .bool false, .int .i64 0, .bool false, .int .i64 0, .slice none 0 0, .int .i64 0, .int .i64 0] [(1, 48, 1, .tmp 8)]⟩, ⟨some 3, none, .new 197 [.bool false, .int .i64 0, .bool false, .int .i64 0, .bool false, .int .i64 0, .bool false, .int .i64 0, .bool false, .int .i64 0, .bool false, .int .i64 0, .bool false, .int .i64 0, .bool false, .int .i64 0, .bool false, .int .i64 0, .bool false, .int .i64 0, .bool false, .int .i64 0, .bool false, .int .i64 0, .bool false, .int .i64 0, .bool false, .int .i64 0, .bool false, .int .i64 0, .bool false, .int .i64 0, .bool false, .int .i64 0, .bool false, .int .i64 0, .bool false, .int .i64 0, .bool false, .int .i64 0, .bool false, .int .i64 0, .bool false, .int .i64 0, .bool false, .int .i64 0, .bool false, .int .i64 0, .slice none 0 0, .int .i64 0, .int .i64 0]⟩, ⟨none, none, .st 51 (.tmp 3) (.tmp 9)⟩]) (.seq (.seq (.reg none [1, 2, 3, 10] [⟨some 10, none, .mv (.const (.int .i64 0))⟩]) (.block 0 (.loop [1, 2, 3, 10] (.seq (.reg none [1, 2, 3, 10, 11] [⟨some 11, none, .bin .lss (.tmp 10) (.const (.int .i64 8))⟩]) (.seq (.cond (.tmp 11) (.skip) (.exit 0)) (.seq (.block 1 (.seq (.reg none [1, 2, 3, 4, 10] [⟨some 12, none, .mv (.tmp 10)⟩, ⟨some 4, none, .mv (.tmp 12)⟩]) (.reg none [1, 2, 3, 10] [⟨some 13, none, .mv (.tmp 4)⟩, ⟨some 14, none, .mv (.tmp 4)⟩, ⟨some 15, none, .fa 0 (.tmp 1)⟩, ⟨some 16, none, .iaa 8 1 (.tmp 15) (.tmp 14)⟩, ⟨some 17, none, .ld none (.tmp 16)⟩, ⟨some 18, none, .bld 194 [.bool false, .int .i64 0] [(0, 0, 1, .const (.bool true)), (1, 1, 1, .tmp 17)]⟩, ⟨some 19, none, .fa 0 (.tmp 3)⟩, ⟨some 20, none, .iaa 24 2 (.tmp 19) (.tmp 13)⟩, ⟨none, none, .st 2 (.tmp 20) (.tmp 18)⟩]))) (.reg none [1, 2, 3, 10] [⟨some 21, none, .bin .add (.tmp 10) (.const (.int .i64 1))⟩, ⟨some 10, none, .mv (.tmp 21)⟩]))))))) (.seq (.reg none [2] [⟨some 22, none, .ld (some 51) (.tmp 3)⟩, ⟨none, none, .st 51 (.tmp 2) (.tmp 22)⟩]) (.ret))))
theorem ok139 : tabOk Tryd.prog 139 c139 [.cell 2 197 (some 51)] 1 = true := by kernel_rfl
-- joinery/run.Run
def c114 : C := .seq (.reg none [0, 3, 4, 5] [⟨some 3, none, .box 39 11 (.tmp 1)⟩, ⟨some 4, none, .new 103 [.slice none 0 0, .int .i64 0, .int .i64 0, .slice none 0 0, .int .i64 0, .int .i64 0]⟩, ⟨some 5, none, .new 197 [.bool false, .int .i64 0, .bool false, .int .i64 0, .bool false, .int .i64 0, .bool false, .int .i64 0, .bool false, .int .i64 0, .bool false, .int .i64 0, .bool false, .int .i64 0, .bool false, .int .i64 0, .bool false, .int .i64 0, .bool false, .int .i64 0, .bool false, .int .i64 0, .bool false, .int .i64 0, .bool false, .int .i64 0, .bool false, .int .i64 0, .bool false, .int .i64 0, .bool false, .int .i64 0, .bool false, .int .i64 0, .bool false, .int .i64 0, .bool false, .int .i64 0, .bool false, .int .i64 0, .bool false, .int .i64 0, .bool false, .int .i64 0, .bool false, .int .i64 0, .bool false, .int .i64 0, .slice none 0 0, .int .i64 0, .int .i64 0]⟩, ⟨some 6, none, .mv (.const (.int .i64 0))⟩]) (.seq (.seq (.reg none [0, 3, 4, 5, 20] [⟨some 13, none, .mv (.tmp 0)⟩, ⟨some 14, none, .call 26 [.tmp 13]⟩, ⟨some 15, none, .un .not (.tmp 14)⟩, ⟨some 16, none, .mv (.tmp 15)⟩, ⟨some 17, some (16, false), .ld (some 11) (.tmp 3)⟩, ⟨some 18, some (16, false), .call 138 [.tmp 17]⟩, ⟨some 19, some (16, false), .un .not (.tmp 18)⟩, ⟨some 20, none, .pick (.tmp 16) (.const (.bool true)) (.tmp 19)⟩]) (.cond (.tmp 20) (.seq (.reg none [4, 5, 6] [⟨some 21, none, .bld 103 [.slice none 0 0, .int .i64 0, .int .i64 0, .slice none 0 0, .int .i64 0, .int .i64 0] []⟩, ⟨some 22, none, .bld 197 [.bool false, .int .i64 0, .bool false, .int .i64 0, .bool false, .int .i64 0, .bool false, .int .i64 0, .bool false, .int .i64 0, .bool false, .int .i64 0, .bool false, .int .i64 0, .bool false, .int .i64 0, .bool false, .int .i64 0, .bool false, .int .i64 0, .bool false, .int .i64 0, .bool false, .int .i64 0, .bool false, .int .i64 0, .bool false, .int .i64 0, .bool false, .int .i64 0, .bool false, .int .i64 0, .bool false, .int .i64 0, .bool false, .int .i64 0, .bool false, .int .i64 0, .bool false, .int .i64 0, .bool false, .int .i64 0, .bool false, .int .i64 0, .bool false, .int .i64 0, .bool false, .int .i64 0, .slice none 0 0, .int .i64 0, .int .i64 0] []⟩, ⟨none, none, .st 6 (.tmp 4) (.tmp 21)⟩, ⟨none, none, .st 51 (.tmp 5) (.tmp 22)⟩, ⟨some 6, none, .mv (.const (.int .i64 1))⟩]) (.ret)) (.skip))) (.seq (.reg none [0, 3, 4, 5, 7] [⟨some 7, none, .new 103 [.slice none 0 0, .int .i64 0, .int .i64 0, .slice none 0 0, .int .i64 0, .int .i64 0]⟩]) (.seq (.reg none [0, 3, 4, 5, 7, 8] [⟨some 23, none, .ld (some 11) (.tmp 3)⟩, ⟨some 24, none, .call 139 [.tmp 23]⟩, ⟨some 8, none, .new 197 [.bool false, .int .i64 0, .bool false, .int .i64 0, .bool false, .int .i64 0, .bool false, .int .i64 0, .bool false, .int .i64 0, .bool false, .int .i64 0, .bool false, .int .i64 0, .bool false, .int .i64 0, .bool false, .int .i64 0, .bool false, .int .i64 0, .bool false, .int .i64 0, .bool false, .int .i64 0, .bool false, .int .i64 0, .bool false, .int .i64 0, .bool false, .int .i64 0, .bool false, .int .i64 0, .bool false, .int .i64 0, .bool false, .int .i64 0, .bool false, .int .i64 0, .bool false, .int .i64 0, .bool false, .int .i64 0, .bool false, .int .i64 0, .bool false, .int .i64 0, .bool false, .int .i64 0, .slice none 0 0, .int .i64 0, .int .i64 0]⟩, ⟨none, none, .st 51 (.tmp 8) (.tmp 24)⟩]) (.seq (.seq (.reg none [0, 3, 4, 5, 7, 8, 26, 27] [⟨some 25, none, .fa 10 (.tmp 3)⟩, ⟨some 26, none, .ld none (.tmp 25)⟩, ⟨some 27, none, .mv (.const (.int .i64 0))⟩]) (.block 0 (.loop [0, 3, 4, 5, 7, 8, 26, 27] (.seq (.reg none [0, 3, 4, 5, 7, 8, 26, 27, 28] [⟨some 28, none, .bin .lss (.tmp 27) (.tmp 26)⟩]) (.seq (.cond (.tmp 28) (.skip) (.exit 0)) (.seq (.block 1 (.seq (.seq (.reg none [0, 3, 4, 5, 7, 8, 26, 27, 35] [⟨some 29, none, .mv (.tmp 0)⟩, ⟨some 30, none, .fa 49 (.tmp 8)⟩, ⟨some 31, none, .ld none (.tmp 30)⟩, ⟨some 32, none, .ia 6 (.tmp 29) (.tmp 31)⟩, ⟨some 33, none, .ld (some 6) (.tmp 32)⟩, ⟨some 34, none, .call 125 [.tmp 33]⟩, ⟨some 35, none, .un .not (.tmp 34)⟩]) (.cond (.tmp 35) (.reg none [0, 3, 4, 5, 7, 8, 26, 27] [⟨some 36, none, .fa 5 (.tmp 7)⟩, ⟨some 37, none, .ld none (.tmp 36)⟩, ⟨some 38, none, .bin .add (.tmp 37) (.const (.int .i64 1))⟩, ⟨some 39, none, .fa 5 (.tmp 7)⟩, ⟨none, none, .st 1 (.tmp 39) (.tmp 38)⟩]) (.skip))) (.seq (.reg none [0, 3, 4, 5, 7, 8, 26, 27] [⟨some 40, none, .fa 4 (.tmp 7)⟩, ⟨some 41, none, .ld none (.tmp 40)⟩, ⟨some 42, none, .bin .add (.tmp 41) (.const (.int .i64 1))⟩, ⟨some 43, none, .fa 4 (.tmp 7)⟩, ⟨none, none, .st 1 (.tmp 43) (.tmp 42)⟩]) (.seq (.reg none [0, 3, 4, 5, 7, 8, 9, 10, 11, 26, 27] [⟨some 45, none, .mv (.tmp 0)⟩, ⟨some 46, none, .ld (some 51) (.tmp 8)⟩, ⟨some 47, none, .fa 9 (.tmp 3)⟩, ⟨some 48, none, .ld none (.tmp 47)⟩, ⟨some 49, none, .call 140 [.tmp 45, .tmp 46, .tmp 48]⟩, ⟨some 44, none, .mv (.tmp 49)⟩, ⟨some 50, none, .ext (.tmp 44) 0⟩, ⟨some 51, none, .ext (.tmp 44) 1⟩, ⟨some 52, none, .ext (.tmp 44) 2⟩, ⟨some 53, none, .ext (.tmp 44) 3⟩, ⟨some 9, none, .new 197 [.bool false, .int .i64 0, .bool false, .int .i64 0, .bool false, .int .i64 0, .bool false, .int .i64 0, .bool false, .int .i64 0, .bool false, .int .i64 0, .bool false, .int .i64 0, .bool false, .int .i64 0, .bool false, .int .i64 0, .bool false, .int .i64 0, .bool false, .int .i64 0, .bool false, .int .i64 0, .bool false, .int .i64 0, .bool false, .int .i64 0, .bool false, .int .i64 0, .bool false, .int .i64 0, .bool false, .int .i64 0, .bool false, .int .i64 0, .bool false, .int .i64 0, .bool false, .int .i64 0, .bool false, .int .i64 0, .bool false, .int .i64 0, .bool false, .int .i64 0, .bool false, .int .i64 0, .slice none 0 0, .int .i64 0, .int .i64 0]⟩, ⟨some 11, none, .new 101 [.int .i64 0, .int .i64 0, .slice none 0 0]⟩, ⟨none, none, .st 51 (.tmp 9) (.tmp 50)⟩, ⟨some 10, none, .mv (.tmp 51)⟩, ⟨none, none, .st 3 (.tmp 11) (.tmp 52)⟩, ⟨some 12, none, .mv (.tmp 53)⟩]) (.seq (.reg none [0, 3, 4, 5, 7, 8, 9, 11, 26, 27] [⟨some 54, none, .fa 0 (.tmp 7)⟩, ⟨some 55, none, .ld none (.tmp 54)⟩, ⟨some 56, none, .mv (.tmp 10)⟩, ⟨some 57, none, .app 205 3 (.tmp 55) (.tmp 56)⟩, ⟨some 58, none, .fa 0 (.tmp 7)⟩, ⟨none, none, .st 1 (.tmp 58) (.tmp 57)⟩]) (.seq (.reg (some [[], [0], [1], [], []]) [0, 3, 4, 5, 7, 8, 11, 26, 27] [⟨some 59, none, .ld (some 51) (.tmp 9)⟩, ⟨some 60, none, .ld (some 3) (.tmp 11)⟩, ⟨none, none, .st 51 (.tmp 8) (.tmp 59)⟩, ⟨some 61, none, .fa 1 (.tmp 7)⟩, ⟨none, none, .st 3 (.tmp 61) (.tmp 60)⟩]) (.seq (.reg none [0, 3, 4, 5, 7, 8, 26, 27, 64] [⟨some 62, none, .fa 0 (.tmp 11)⟩, ⟨some 63, none, .ld none (.tmp 62)⟩, ⟨some 64, none, .bin .neq (.tmp 63) (.const (.int .i64 0))⟩]) (.cond (.tmp 64) (.exit 0) (.skip))))))))) (.reg none [0, 3, 4, 5, 7, 8, 26, 27] [⟨some 65, none, .bin .add (.tmp 27) (.const (.int .i64 1))⟩, ⟨some 27, none, .mv (.tmp 65)⟩]))))))) (.seq (.reg (some [[], [0], [1], [], []]) [4, 5, 6] [⟨some 66, none, .ld (some 6) (.tmp 7)⟩, ⟨some 67, none, .ld (some 51) (.tmp 8)⟩, ⟨none, none, .st 6 (.tmp 4) (.tmp 66)⟩, ⟨none, none, .st 51 (.tmp 5) (.tmp 67)⟩, ⟨some 6, none, .mv (.const (.int .i64 0))⟩]) (.ret))))))
theorem ok114 : tabOk Tryd.prog 114 c114 [.cell 4 103 (some 6), .cell 5 197 (some 51), .tmp 6] 2 = true := by kernel_rfl
theorem take_snoc' {α : Type} {l : List α} {i : Nat} {x : α} (h : l[i]? = some x) : l.take (i + 1) = l.take i ++ [x] := by rw [List.take_add_one, h]; rfl
theorem list8 {α : Type} {L : List α} (h : L.length = 8) : ∃ a0 a1 a2 a3 a4 a5 a6 a7, L = [a0, a1, a2, a3, a4, a5, a6, a7] := by
  match L, h with
  | [a0, a1, a2, a3, a4, a5, a6, a7], _ => exact ⟨_, _, _, _, _, _, _, _, rfl⟩
def caC (kh ka : Nat) (c : Cas) : List V := vals (nums c.R) ++ [.sl kh 0 c.H.length, .sl ka 0 c.A.length, vi c.fuel]
def caV (kh ka : Nat) (c : Cas) : V := .agg (caC kh ka c)
theorem fn138 (c : Cas) (hR : c.R.length = 8) : FnOK Tryd.prog gidD 138 4 [caV 2 3 c] (hl []) (vb (caseOk c)) (hl []) 4 := by
  refine FnOK.of ok138 (Nat.le_refl _) (Nat.le_refl _) fun M => ?_
  have hh := fn155 c.H.length
  obtain ⟨R, H, A, fuel⟩ := c
  simp only at hR hh
  obtain ⟨r0, r1, r2, r3, r4, r5, r6, r7, hRe⟩ := list8 hR
  unfold caV caC
  simp only
  rw [hRe]
  conv => whnf
  refine callX hh [.old 0, .old 1, .old 2] rfl rfl rfl rfl trivial ?_
  conv => whnf
  repeat' ((first | refine brD_intro (fun h => ?_) (fun h => ?_) | refine brT_intro (fun h => ?_) (fun h => ?_)) <;> conv => whnf)
  all_goals
    clear hh
    have hc : caseOk ⟨R, H, A, fuel⟩ = (decide ((H.length : Int) ≤ 16) && (decide ((A.length : Int) ≤ 5000) && (decide (0 ≤ fuel) && decide (fuel ≤ 5000)))) := by
      unfold caseOk
      rw [decide_eq_decide.2 (show H.length ≤ 16 ↔ (H.length : Int) ≤ 16 by omega), decide_eq_decide.2 (show A.length ≤ 5000 ↔ (A.length : Int) ≤ 5000 by omega)]
    exact retX [.old 0, .old 1, .old 2, .old 3] (.inl rfl) rfl (congrArg (fun b => some (vb b)) (by rw [← hRe, hc]; simp_all <;> omega)) rfl trivial
def begL (R : List Int) (i : Nat) : List (Bool × Int) := (R.take i).map (fun v => (true, v)) ++ List.replicate (24 - i) (false, 0)
theorem begL_len {R : List Int} (hR : R.length = 8) {i : Nat} (hi : i ≤ 8) : (begL R i).length = 24 := by simp [begL, hR]; omega
theorem begL_set {R : List Int} (hR : R.length = 8) {i : Nat} {v : Int} (hv : R[i]? = some v) : (begL R i).set i (true, v) = begL R (i + 1) := by
  have hi := (List.getElem?_eq_some_iff.1 hv).1
  have hl : ((R.take i).map (fun v => (true, v))).length = i := by simp; omega
  unfold begL
  rw [List.set_append_right _ _ (by omega), hl, Nat.sub_self, take_snoc' hv, List.map_append, List.append_assoc, show 24 - i = (24 - (i + 1)) + 1 by omega, List.replicate_succ]
  rfl
theorem numAtApp {R : List Int} {T : List V} {i o : Nat} {z : Int} (ho : o = i) (hz : R[i]? = some z) : (vals (nums R) ++ T)[o]? = some (vi z) := by
  subst ho
  rw [List.getElem?_append_left (by rw [vnums_len]; exact (List.getElem?_eq_some_iff.1 hz).1)]
  simp [vals, nums, hz]
theorem fn139 (c : Cas) (hR : c.R.length = 8) (hH : c.H.length ≤ 16) : FnOK Tryd.prog gidD 139 4 [caV 2 3 c] (hl [(2, .ro (nums c.H))]) (stV 4 (beginS c)) (hl [(4, .row 2 (nums c.H))]) 5 := by
  refine FnOK.of ok139 (Nat.le_refl _) (by decide) fun M => ?_
  obtain ⟨R, H, A, fuel⟩ := c
  simp only at hR hH
  obtain ⟨r0, r1, r2, r3, r4, r5, r6, r7, hRe⟩ := list8 hR
  unfold caV caC stV beginS
  simp only
  rw [hRe]
  have c3 : (FB.ro (nums H)).blk.sub 0 (H.length * 1) = vals (nums H) := subRo' rfl (by simp [nums])
  have c2 : 0 + H.length * 1 ≤ (FB.ro (nums H)).blk.cellsV.length := by rw [show (FB.ro (nums H)).blk.cellsV = vals (nums H) from rfl, vnums_len]; omega
  have c4 : ((FB.ro (nums H)).blk.sub 0 (H.length * 1)).all V.flat = true := by rw [c3]; exact numFlat H
  conv => whnf
  refine cndP_intro c2 ?_
  conv => whnf
  refine cndP_intro c4 ?_
  conv => whnf
  refine cndP_intro (by omega) ?_
  conv => whnf
  rw [← hRe]
  have hB : R.map (fun v => (true, v)) ++ List.replicate 16 (false, 0) = begL R 8 := by unfold begL; rw [List.take_of_length_le (by omega)]
  rw [hB]
  refine LoopS.ren (F2 := [(2, .ro (nums H)), (4, .cel 39 (vals (nums R) ++ [.sl 2 0 H.length, .sl 3 0 A.length, vi fuel])), (6, .cel 197 (vals (wcells (begL R 0)) ++ [.sl 7 0 H.length, vi 0, vi 0])), (5, .cel 197 (vals (wcells (begL [] 0)) ++ [nilV, vi 0, vi 0])), (7, .row 2 (nums H))])
    (fr2 := [(1, .ptr 4 0), (2, .ptr 5 0), (3, .ptr 6 0), (10, vi (0 : Nat))]) (n2 := 8) [.old 0, .old 1, .old 2, .old 3, .old 4, .old 5, .old 8, .old 7] ?_ rfl (by decide) ⟨rfl, rfl, rfl, rfl, trivial⟩ ⟨rfl, ⟨_, rfl, rnL_app rfl _⟩, ⟨_, rfl, by rw [Nat.zero_add H.length]; rfl⟩, ⟨_, rfl, rfl⟩, ⟨_, rfl, by show ([] : List V) ++ _ = _; rw [c3]; rfl⟩, trivial⟩
  refine LoopS.ind (S := Nat) (fun i => [(1, .ptr 4 0), (2, .ptr 5 0), (3, .ptr 6 0), (10, vi i)])
    (fun i => hl [(2, .ro (nums H)), (4, .cel 39 (vals (nums R) ++ [.sl 2 0 H.length, .sl 3 0 A.length, vi fuel])), (6, .cel 197 (vals (wcells (begL R i)) ++ [.sl 7 0 H.length, vi 0, vi 0])), (5, .cel 197 (vals (wcells (begL [] 0)) ++ [nilV, vi 0, vi 0])), (7, .row 2 (nums H))]) 8
    (fun i => i ≤ 8) (fun i => 8 - i) ?_ 0 (Nat.zero_le _)
  intro i hi ih
  refine LoopS.round rfl ?_
  conv => whnf
  have hlen := begL_len hR hi
  by_cases hlt : i < 8
  · refine brT_true (decide_eq_true (by omega)) ?_
    obtain ⟨v, hv⟩ : ∃ v, R[i]? = some v := ⟨_, List.getElem?_eq_getElem (by omega)⟩
    conv => whnf
    repeat (refine cndP_intro (by omega) ?_; conv => whnf)
    rw [numAtApp (R := R) (by omega) hv]
    conv => whnf
    have hl2 : (vals (wcells (begL R i)) ++ [V.sl 7 0 H.length, vi 0, vi 0]).length = 51 := by simp [wcells_len, hlen]
    repeat (refine cndP_intro (by first | omega | exact rfl) ?_; conv => whnf)
    refine LoopS.ren [.old 0, .old 1, .old 2, .old 3, .old 4, .old 5, .old 6, .old 7] (ih (i + 1) hlt (by omega)) rfl (by decide) ⟨rfl, rfl, rfl, congrArg (fun z => some (vi z)) (w64i hlt (by omega)).symm, trivial⟩ ⟨rfl, ⟨_, rfl, rnL_app rfl _⟩, ⟨_, rfl, ?_⟩, ⟨_, rfl, rfl⟩, ⟨_, rfl, rfl⟩, trivial⟩
    rw [← begL_set hR hv]
    exact (rnL_app rfl _).trans (congrArg some (wSet hlen (l := (i : Int)) (by omega) (by omega) _ (o := 0 + 0 + Int.toNat (i : Int) * 2) (by omega) (true, v)).symm)
  · refine brT_false (decide_eq_false (by omega)) ?_
    conv => whnf
    obtain rfl : i = 8 := by omega
    clear ih
    obtain ⟨b0, b1, b2, b3, b4, b5, b6, b7, b8, b9, b10, b11, b12, b13, b14, b15, b16, b17, b18, b19, b20, b21, b22, b23, hLe⟩ := list24 hlen
    rw [hLe]
    conv => whnf
    repeat (refine cndP_intro (by first | omega | exact rfl) ?_; conv => whnf)
    exact retX [.old 0, .old 1, .old 2, .old 3, .old 7] (.inl rfl) rfl rfl rfl ⟨⟨_, rfl, rfl⟩, trivial⟩
theorem evCells_app (a b : List Evn) : evCells (a ++ b) = evCells a ++ evCells b := by simp [evCells]
theorem evCells_len (l : List Evn) : (evCells l).length = l.length * 3 := by
  induction l with
  | nil => rfl
  | cons e l ih => simp [evCells] at ih ⊢; omega
theorem evFlat (l : List Evn) : (vals (evCells l)).all V.flat = true := by
  simp only [vals, List.all_map, List.all_eq_true]
  intro x hx
  simp only [evCells, List.mem_flatMap] at hx
  obtain ⟨e, _, hx⟩ := hx
  simp at hx
  rcases hx with rfl | rfl | rfl <;> rfl
def trV (ke kh : Nat) (t : Trc) : List V := [.sl ke 0 t.ev.length, vi t.out.how, vi t.out.value, .sl kh 0 t.out.heap.length, vi (t.steps : Int), vi (t.work : Int)]
theorem step_ev_len {x : Ins} {s : Mst} {A : List Int} (h1 : 1 ≤ x.op) (h2 : x.op ≤ 18) : (stepX x s A).2.1.length ≤ 1 := by
  refine step_ind (Q := fun r => r.2.1.length ≤ 1) h1 h2 (fun _ => ?_) (fun _ => ?_) (fun _ => ?_) (fun _ => ?_) (fun _ _ _ => ?_) (fun _ _ _ => ?_) (fun _ _ _ => ?_) (fun _ => ?_) (fun _ => ?_)
  all_goals simp
theorem step_go {x : Ins} {s : Mst} {A : List Int} (h1 : 1 ≤ x.op) (h2 : x.op ≤ 18) (h : (stepX x s A).2.2.how = 0) : (stepX x s A).2.2 = goOn := by
  by_cases hm : movesI x = true
  · rw [(step_moves hm).2]
  have hm : movesI x = false := by simpa using hm
  by_cases hu : hasU x s = true
  · rw [stepG hm hu] at h ⊢
    repeat' split at h
    all_goals first | (simp at h; done) | skip
    all_goals (simp_all; done)
  · rw [stepU hm (by simpa using hu)] at h; simp at h
theorem fn114n (f : List Ins) (c : Cas) (hR : c.R.length = 8) (hf : fair f c = false) : FnOK Tryd.prog gidD 114 5 [.sl 2 0 f.length, caV 3 4 c] (hl [(0, .ro shapesV), (2, .ro (insCells f))])
    (.tup [.agg [nilV, vi 0, vi 0, nilV, vi 0, vi 0], .agg (vals (wcells (begL [] 0)) ++ [nilV, vi 0, vi 0]), vi 1]) (hl []) 5 := by
  refine FnOK.of ok114 (Nat.le_refl _) (Nat.le_refl _) fun M => ?_
  have h1 := fn26 f
  have h2 := fn138 c hR
  unfold fair at hf
  generalize right f = b1 at h1 hf
  generalize caseOk c = b2 at h2 hf
  obtain ⟨R, H, A, fuel⟩ := c
  simp only at hR
  obtain ⟨r0, r1, r2, r3, r4, r5, r6, r7, hRe⟩ := list8 hR
  unfold caV caC at h2 ⊢
  simp only at h2 ⊢
  rw [hRe] at h2 ⊢
  conv => whnf
  refine callX h1 [.old 0, .old 1, .old 2] rfl rfl rfl rfl ⟨rfl, rfl, trivial⟩ ?_
  cases b1
  · conv => whnf
    exact retX [.old 0, .old 1, .old 2, .old 3, .old 4] (.inl rfl) rfl rfl rfl trivial
  · conv => whnf
    refine callX h2 [.old 0, .old 1, .old 3, .old 4] rfl rfl rfl rfl trivial ?_
    obtain rfl : b2 = false := by simpa using hf
    conv => whnf
    exact retX [.old 0, .old 1, .old 2, .old 3, .old 4] (.inl rfl) rfl rfl rfl trivial
end Go.Abs
