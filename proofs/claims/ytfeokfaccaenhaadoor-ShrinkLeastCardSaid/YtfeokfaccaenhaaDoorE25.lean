/- Contracts: a step. -/
import Derived.Test.YtfeokfaccaenhaaDoorE24
import Derived.Test.YtfeokfaccaenhaaDoorM1
set_option linter.unusedVariables false
set_option linter.unusedSimpArgs false
namespace Go.Abs
open Go.Proofs
set_option maxRecDepth 100000
set_option maxHeartbeats 2000000
-- joinery/step.own
def c157 : C := .seq (.reg none [1, 2] [⟨some 1, none, .box 197 51 (.tmp 0)⟩, ⟨some 2, none, .new 197 [.bool false, .int .i64 0, .bool false, .int .i64 0, .bool false, .int .i64 0, .bool false, .int .i64 0, .bool false, .int .i64 0, .bool false, .int .i64 0, .bool false, .int .i64 0, .bool false, .int .i64 0, .bool false, .int .i64 0, .bool false, .int .i64 0, .bool false, .int .i64 0, .bool false, .int .i64 0, .bool false, .int .i64 0, .bool false, .int .i64 0, .bool false, .int .i64 0, .bool false, .int .i64 0, .bool false, .int .i64 0, .bool false, .int .i64 0, .bool false, .int .i64 0, .bool false, .int .i64 0, .bool false, .int .i64 0, .bool false, .int .i64 0, .bool false, .int .i64 0, .bool false, .int .i64 0, .slice none 0 0, .int .i64 0, .int .i64 0]⟩]) (.seq (.reg none [1, 2] [⟨some 3, none, .bsl 2 0 1 [.int .i64 0] []⟩, ⟨some 4, none, .fa 48 (.tmp 1)⟩, ⟨some 5, none, .ld none (.tmp 4)⟩, ⟨some 6, none, .app 2 1 (.tmp 3) (.tmp 5)⟩, ⟨some 7, none, .fa 48 (.tmp 1)⟩, ⟨none, none, .st 1 (.tmp 7) (.tmp 6)⟩]) (.seq (.reg none [2] [⟨some 8, none, .ld (some 51) (.tmp 1)⟩, ⟨none, none, .st 51 (.tmp 2) (.tmp 8)⟩]) (.ret)))
theorem ok157 : tabOk Tryd.prog 157 c157 [.cell 2 197 (some 51)] 1 = true := by kernel_rfl
-- joinery/step.Right
def c156 : C := .seq (.reg none [0, 3] [⟨some 3, none, .box 197 51 (.tmp 1)⟩, ⟨some 4, none, .mv (.const (.bool false))⟩]) (.seq (.seq (.reg none [3, 32] [⟨some 7, none, .mv (.tmp 0)⟩, ⟨some 8, none, .call 26 [.tmp 7]⟩, ⟨some 9, none, .un .not (.tmp 8)⟩, ⟨some 10, none, .mv (.tmp 9)⟩, ⟨some 11, some (10, false), .fa 49 (.tmp 3)⟩, ⟨some 12, some (10, false), .ld none (.tmp 11)⟩, ⟨some 13, some (10, false), .bin .lss (.tmp 12) (.const (.int .i64 0))⟩, ⟨some 14, none, .pick (.tmp 10) (.const (.bool true)) (.tmp 13)⟩, ⟨some 15, none, .mv (.tmp 14)⟩, ⟨some 16, some (15, false), .fa 49 (.tmp 3)⟩, ⟨some 17, some (15, false), .ld none (.tmp 16)⟩, ⟨some 18, some (15, false), .mv (.tmp 0)⟩, ⟨some 19, some (15, false), .len (.tmp 18)⟩, ⟨some 20, some (15, false), .bin .geq (.tmp 17) (.tmp 19)⟩, ⟨some 21, none, .pick (.tmp 15) (.const (.bool true)) (.tmp 20)⟩, ⟨some 22, none, .mv (.tmp 21)⟩, ⟨some 23, some (22, false), .fa 48 (.tmp 3)⟩, ⟨some 24, some (22, false), .ld none (.tmp 23)⟩, ⟨some 25, some (22, false), .call 155 [.tmp 24]⟩, ⟨some 26, some (22, false), .un .not (.tmp 25)⟩, ⟨some 27, none, .pick (.tmp 22) (.const (.bool true)) (.tmp 26)⟩, ⟨some 28, none, .mv (.tmp 27)⟩, ⟨some 29, some (28, false), .fa 50 (.tmp 3)⟩, ⟨some 30, some (28, false), .ld none (.tmp 29)⟩, ⟨some 31, some (28, false), .bin .lss (.tmp 30) (.const (.int .i64 0))⟩, ⟨some 32, none, .pick (.tmp 28) (.const (.bool true)) (.tmp 31)⟩]) (.cond (.tmp 32) (.seq (.reg none [4] [⟨some 4, none, .mv (.const (.bool false))⟩]) (.ret)) (.skip))) (.seq (.seq (.reg none [34, 35] [⟨some 33, none, .fa 0 (.tmp 3)⟩, ⟨some 34, none, .ld (some 48) (.tmp 33)⟩, ⟨some 35, none, .mv (.const (.int .i64 0))⟩]) (.block 0 (.loop [34, 35] (.seq (.reg none [34, 35, 36] [⟨some 36, none, .bin .lss (.tmp 35) (.const (.int .i64 24))⟩]) (.seq (.cond (.tmp 36) (.skip) (.exit 0)) (.seq (.block 1 (.seq (.reg none [6, 34, 35] [⟨some 37, none, .ixa 24 2 (some 2) (.tmp 34) (.tmp 35)⟩, ⟨some 6, none, .new 194 [.bool false, .int .i64 0]⟩, ⟨none, none, .st 2 (.tmp 6) (.tmp 37)⟩]) (.seq (.reg none [34, 35, 45] [⟨some 38, none, .fa 0 (.tmp 6)⟩, ⟨some 39, none, .ld none (.tmp 38)⟩, ⟨some 40, none, .un .not (.tmp 39)⟩, ⟨some 41, none, .mv (.tmp 40)⟩, ⟨some 42, some (41, true), .fa 1 (.tmp 6)⟩, ⟨some 43, some (41, true), .ld none (.tmp 42)⟩, ⟨some 44, some (41, true), .bin .neq (.tmp 43) (.const (.int .i64 0))⟩, ⟨some 45, none, .pick (.tmp 41) (.tmp 44) (.const (.bool false))⟩]) (.cond (.tmp 45) (.seq (.reg none [4] [⟨some 4, none, .mv (.const (.bool false))⟩]) (.ret)) (.skip))))) (.reg none [34, 35] [⟨some 46, none, .bin .add (.tmp 35) (.const (.int .i64 1))⟩, ⟨some 35, none, .mv (.tmp 46)⟩]))))))) (.seq (.reg none [4] [⟨some 4, none, .mv (.const (.bool true))⟩]) (.ret))))
theorem ok156 : tabOk Tryd.prog 156 c156 [.tmp 4] 2 = true := by kernel_rfl
-- joinery/step.Do
def c140 : C := .seq (.reg none [0, 2, 4, 6, 8] [⟨some 4, none, .box 197 51 (.tmp 1)⟩, ⟨some 6, none, .new 197 [.bool false, .int .i64 0, .bool false, .int .i64 0, .bool false, .int .i64 0, .bool false, .int .i64 0, .bool false, .int .i64 0, .bool false, .int .i64 0, .bool false, .int .i64 0, .bool false, .int .i64 0, .bool false, .int .i64 0, .bool false, .int .i64 0, .bool false, .int .i64 0, .bool false, .int .i64 0, .bool false, .int .i64 0, .bool false, .int .i64 0, .bool false, .int .i64 0, .bool false, .int .i64 0, .bool false, .int .i64 0, .bool false, .int .i64 0, .bool false, .int .i64 0, .bool false, .int .i64 0, .bool false, .int .i64 0, .bool false, .int .i64 0, .bool false, .int .i64 0, .bool false, .int .i64 0, .slice none 0 0, .int .i64 0, .int .i64 0]⟩, ⟨some 7, none, .mv (.const (.slice none 0 0))⟩, ⟨some 8, none, .new 101 [.int .i64 0, .int .i64 0, .slice none 0 0]⟩, ⟨some 9, none, .mv (.const (.int .i64 0))⟩]) (.seq (.seq (.reg none [0, 2, 4, 6, 8, 17] [⟨some 14, none, .mv (.tmp 0)⟩, ⟨some 15, none, .ld (some 51) (.tmp 4)⟩, ⟨some 16, none, .call 156 [.tmp 14, .tmp 15]⟩, ⟨some 17, none, .un .not (.tmp 16)⟩]) (.cond (.tmp 17) (.seq (.reg none [6, 7, 8, 9] [⟨some 18, none, .bld 197 [.bool false, .int .i64 0, .bool false, .int .i64 0, .bool false, .int .i64 0, .bool false, .int .i64 0, .bool false, .int .i64 0, .bool false, .int .i64 0, .bool false, .int .i64 0, .bool false, .int .i64 0, .bool false, .int .i64 0, .bool false, .int .i64 0, .bool false, .int .i64 0, .bool false, .int .i64 0, .bool false, .int .i64 0, .bool false, .int .i64 0, .bool false, .int .i64 0, .bool false, .int .i64 0, .bool false, .int .i64 0, .bool false, .int .i64 0, .bool false, .int .i64 0, .bool false, .int .i64 0, .bool false, .int .i64 0, .bool false, .int .i64 0, .bool false, .int .i64 0, .bool false, .int .i64 0, .slice none 0 0, .int .i64 0, .int .i64 0] []⟩, ⟨some 19, none, .bld 101 [.int .i64 0, .int .i64 0, .slice none 0 0] []⟩, ⟨none, none, .st 51 (.tmp 6) (.tmp 18)⟩, ⟨some 7, none, .mv (.const (.slice none 0 0))⟩, ⟨none, none, .st 3 (.tmp 8) (.tmp 19)⟩, ⟨some 9, none, .mv (.const (.int .i64 1))⟩]) (.ret)) (.skip))) (.seq (.reg (some [[], [], [0, 1], [0, 1, 2], [0, 1, 2], [0, 1], [0, 1], [0, 1, 2, 3, 4, 5, 6], [], [], []]) [4, 6, 8, 10] [⟨some 20, none, .ld (some 51) (.tmp 4)⟩, ⟨some 21, none, .call 157 [.tmp 20]⟩, ⟨some 22, none, .mv (.tmp 0)⟩, ⟨some 23, none, .fa 49 (.tmp 4)⟩, ⟨some 24, none, .ld none (.tmp 23)⟩, ⟨some 25, none, .ia 6 (.tmp 22) (.tmp 24)⟩, ⟨some 26, none, .ld (some 6) (.tmp 25)⟩, ⟨some 27, none, .mv (.tmp 2)⟩, ⟨some 28, none, .bld 272 [.bool false, .int .i64 0, .bool false, .int .i64 0, .bool false, .int .i64 0, .bool false, .int .i64 0, .bool false, .int .i64 0, .bool false, .int .i64 0, .bool false, .int .i64 0, .bool false, .int .i64 0, .bool false, .int .i64 0, .bool false, .int .i64 0, .bool false, .int .i64 0, .bool false, .int .i64 0, .bool false, .int .i64 0, .bool false, .int .i64 0, .bool false, .int .i64 0, .bool false, .int .i64 0, .bool false, .int .i64 0, .bool false, .int .i64 0, .bool false, .int .i64 0, .bool false, .int .i64 0, .bool false, .int .i64 0, .bool false, .int .i64 0, .bool false, .int .i64 0, .bool false, .int .i64 0, .slice none 0 0, .int .i64 0, .int .i64 0, .int .i64 0, .int .i64 0, .int .i64 0, .int .i64 0, .int .i64 0, .int .i64 0, .slice none 0 0, .slice none 0 0, .int .i64 0, .int .i64 0] [(0, 0, 51, .tmp 21), (1, 51, 6, .tmp 26), (2, 57, 1, .tmp 27)]⟩, ⟨some 29, none, .box 272 61 (.tmp 28)⟩, ⟨some 10, none, .mv (.tmp 29)⟩]) (.seq (.seq (.reg none [4, 6, 8, 10, 34, 35, 36] [⟨some 30, none, .mv (.tmp 10)⟩, ⟨some 31, none, .nilc (.tmp 30)⟩, ⟨some 32, none, .fa 51 (.tmp 31)⟩, ⟨some 33, none, .ld (some 6) (.tmp 32)⟩, ⟨some 34, none, .call 89 [.tmp 33]⟩, ⟨some 35, none, .len (.tmp 34)⟩, ⟨some 36, none, .mv (.const (.int .i64 0))⟩]) (.block 0 (.loop [4, 6, 8, 10, 34, 35, 36] (.seq (.reg none [4, 6, 8, 10, 34, 35, 36, 37] [⟨some 37, none, .bin .lss (.tmp 36) (.tmp 35)⟩]) (.seq (.cond (.tmp 37) (.skip) (.exit 0)) (.seq (.block 1 (.seq (.reg none [4, 6, 8, 10, 12, 34, 35, 36] [⟨some 38, none, .ia 1 (.tmp 34) (.tmp 36)⟩, ⟨some 39, none, .ld none (.tmp 38)⟩, ⟨some 12, none, .mv (.tmp 39)⟩]) (.seq (.reg none [4, 6, 8, 10, 34, 35, 36, 45] [⟨some 40, none, .mv (.tmp 12)⟩, ⟨some 41, none, .fa 0 (.tmp 4)⟩, ⟨some 42, none, .iaa 24 2 (.tmp 41) (.tmp 40)⟩, ⟨some 43, none, .fa 0 (.tmp 42)⟩, ⟨some 44, none, .ld none (.tmp 43)⟩, ⟨some 45, none, .un .not (.tmp 44)⟩]) (.cond (.tmp 45) (.seq (.reg none [6, 7, 8, 9] [⟨some 46, none, .mv (.tmp 10)⟩, ⟨some 47, none, .nilc (.tmp 46)⟩, ⟨some 48, none, .fa 0 (.tmp 47)⟩, ⟨some 49, none, .ld (some 51) (.tmp 48)⟩, ⟨some 50, none, .bld 101 [.int .i64 0, .int .i64 0, .slice none 0 0] [(0, 0, 1, .const (.int .i64 2))]⟩, ⟨none, none, .st 51 (.tmp 6) (.tmp 49)⟩, ⟨some 7, none, .mv (.const (.slice none 0 0))⟩, ⟨none, none, .st 3 (.tmp 8) (.tmp 50)⟩, ⟨some 9, none, .mv (.const (.int .i64 0))⟩]) (.ret)) (.skip))))) (.reg none [4, 6, 8, 10, 34, 35, 36] [⟨some 51, none, .bin .add (.tmp 36) (.const (.int .i64 1))⟩, ⟨some 36, none, .mv (.tmp 51)⟩]))))))) (.seq (.reg none [6, 8, 10] [⟨some 52, none, .mv (.tmp 10)⟩, ⟨some 53, none, .call 158 [.tmp 52]⟩]) (.seq (.reg (some [[], [], [], [], [0, 1, 2, 3], [0, 1, 2, 3], [0, 1, 2, 3], [0, 1, 2, 3], [], [0, 1, 2, 3, 4, 5, 6, 7, 8], []]) [6, 8, 10, 13] [⟨some 54, none, .mv (.tmp 10)⟩, ⟨some 55, none, .nilc (.tmp 54)⟩, ⟨some 56, none, .fa 59 (.tmp 55)⟩, ⟨some 57, none, .ld none (.tmp 56)⟩, ⟨some 58, none, .mv (.tmp 10)⟩, ⟨some 59, none, .nilc (.tmp 58)⟩, ⟨some 60, none, .fa 60 (.tmp 59)⟩, ⟨some 61, none, .ld none (.tmp 60)⟩, ⟨some 62, none, .bld 101 [.int .i64 0, .int .i64 0, .slice none 0 0] [(0, 0, 1, .tmp 57), (1, 1, 1, .tmp 61)]⟩, ⟨some 13, none, .new 101 [.int .i64 0, .int .i64 0, .slice none 0 0]⟩, ⟨none, none, .st 3 (.tmp 13) (.tmp 62)⟩]) (.seq (.seq (.reg none [6, 8, 10, 13, 67] [⟨some 63, none, .mv (.tmp 10)⟩, ⟨some 64, none, .nilc (.tmp 63)⟩, ⟨some 65, none, .fa 59 (.tmp 64)⟩, ⟨some 66, none, .ld none (.tmp 65)⟩, ⟨some 67, none, .bin .eql (.tmp 66) (.const (.int .i64 1))⟩]) (.cond (.tmp 67) (.reg none [6, 8, 10, 13] [⟨some 68, none, .bsl 2 0 1 [.int .i64 0] []⟩, ⟨some 69, none, .mv (.tmp 10)⟩, ⟨some 70, none, .nilc (.tmp 69)⟩, ⟨some 71, none, .fa 0 (.tmp 70)⟩, ⟨some 72, none, .fa 48 (.tmp 71)⟩, ⟨some 73, none, .ld none (.tmp 72)⟩, ⟨some 74, none, .app 2 1 (.tmp 68) (.tmp 73)⟩, ⟨some 75, none, .fa 2 (.tmp 13)⟩, ⟨none, none, .st 1 (.tmp 75) (.tmp 74)⟩]) (.skip))) (.seq (.reg (some [[], [], [], [], [0, 1, 2, 3], [0, 1, 2, 3], [0, 1, 2, 3], [0, 1, 2, 3], [0, 1, 2, 3, 4, 5, 6, 7], [4, 5, 6, 7, 8], [8], [], []]) [6, 7, 8, 9] [⟨some 76, none, .mv (.tmp 10)⟩, ⟨some 77, none, .nilc (.tmp 76)⟩, ⟨some 78, none, .fa 0 (.tmp 77)⟩, ⟨some 79, none, .ld (some 51) (.tmp 78)⟩, ⟨some 80, none, .mv (.tmp 10)⟩, ⟨some 81, none, .nilc (.tmp 80)⟩, ⟨some 82, none, .fa 58 (.tmp 81)⟩, ⟨some 83, none, .ld none (.tmp 82)⟩, ⟨some 84, none, .ld (some 3) (.tmp 13)⟩, ⟨none, none, .st 51 (.tmp 6) (.tmp 79)⟩, ⟨some 7, none, .mv (.tmp 83)⟩, ⟨none, none, .st 3 (.tmp 8) (.tmp 84)⟩, ⟨some 9, none, .mv (.const (.int .i64 0))⟩]) (.ret))))))))
theorem ok140 : tabOk Tryd.prog 140 c140 [.cell 6 197 (some 51), .tmp 7, .cell 8 101 (some 3), .tmp 9] 3 = true := by kernel_rfl
def stV (k : Nat) (s : Mst) : V := .agg (vals (wcells s.L) ++ [.sl k 0 s.H.length, vi s.pc, vi s.asked])
def otV (k : Nat) (o : Otc) : V := .agg [vi o.how, vi o.value, .sl k 0 o.heap.length]
/-- What a run's end tells of the heap. -/
theorem step_heap {x : Ins} {s : Mst} {A : List Int} (h1 : 1 ≤ x.op) (h2 : x.op ≤ 18) : (stepX x s A).2.2.heap = if (stepX x s A).2.2.how = 1 then (stepX x s A).1.H else [] := by
  by_cases hm : movesI x = true
  · rw [(step_moves hm).2]; rfl
  have hm : movesI x = false := by simpa using hm
  by_cases hu : hasU x s = true
  · have hn : (numDo x.op (getW s.L x.a).2 (getW s.L x.b).2).2 ≠ 1 := by
      unfold numDo
      repeat' split
      all_goals first | (show (0 : Int) ≠ 1; decide) | (show (2 : Int) ≠ 1; decide) | (show (3 : Int) ≠ 1; decide)
    rw [stepG hm hu]
    repeat' split
    all_goals first | rfl | (rename_i h; simp [h]; done) | (simp [hn]; done) | simp_all [goOn]
  · rw [stepU hm (by simpa using hu)]; rfl
theorem rnAv (l : List Src) (xs : List Value) : rnV l (.agg (vals xs)) = some (.agg (vals xs)) := by
  have := rnA (l := l) (R := []) (R' := []) rfl xs
  simpa using this
theorem ge0 {α : Type} (e : TypeId) (c : List Value) : 0 + c.length ≤ (Blk.own e (vals c)).cellsV.length := by rw [Nat.zero_add]; exact Nat.le_of_eq (vals_length _).symm
theorem fn157 (s : Mst) (hL : s.L.length = 24) (hH : s.H.length ≤ 16) : FnOK Tryd.prog gidD 157 3 [stV 2 s] (hl [(2, .ro (nums s.H))]) (stV 3 s) (hl [(3, .row 2 (nums s.H))]) 4 := by
  refine FnOK.of ok157 (Nat.le_refl _) (by decide) fun M => ?_
  obtain ⟨L, H, pc, asked⟩ := s
  simp only at *
  unfold stV
  simp only
  obtain ⟨a0, a1, a2, a3, a4, a5, a6, a7, a8, a9, a10, a11, a12, a13, a14, a15, a16, a17, a18, a19, a20, a21, a22, a23, hLe⟩ := list24 hL
  rw [hLe]
  have c3 : (FB.ro (nums H)).blk.sub 0 (H.length * 1) = vals (nums H) := subRo' rfl (by simp [nums])
  have c2 : 0 + H.length * 1 ≤ (FB.ro (nums H)).blk.cellsV.length := by rw [show (FB.ro (nums H)).blk.cellsV = vals (nums H) from rfl, vnums_len]; omega
  have c4 : ((FB.ro (nums H)).blk.sub 0 (H.length * 1)).all V.flat = true := by rw [c3]; exact numFlat H
  conv => whnf
  repeat (refine cndP_intro (by first | omega | exact rfl | exact c2 | exact c4 | (show _ ≤ 51; omega)) ?_; conv => whnf)
  rw [Nat.zero_add H.length]
  exact retX [.old 0, .old 1, .old 2, .old 6] (.inl rfl) rfl rfl rfl ⟨⟨_, rfl, by show ([] : List V) ++ _ = _; rw [c3]; rfl⟩, trivial⟩
theorem wTake0 {L : List (Bool × Int)} {i : Nat} {w : Bool × Int} (h : L[i]? = some w) : List.take 2 (List.drop (Int.toNat (i : Int) * 2) (vals (wcells L))) = [vb w.1, vi w.2] := by
  obtain ⟨a1, a2⟩ := wcells_at h
  have b1 : (vals (wcells L))[i * 2]? = some (vb w.1) := by simp [vals, a1]
  have b2 : (vals (wcells L))[i * 2 + 1]? = some (vi w.2) := by simp [vals, a2]
  rw [Int.toNat_natCast, drop_cons b1, drop_cons b2]
  rfl
theorem fn156 (f : List Ins) (s : Mst) (hr : right f = true) (h : Okm f s) : FnOK Tryd.prog gidD 156 4 [.sl 2 0 f.length, stV 3 s] (hl [(0, .ro shapesV), (2, .ro (insCells f))]) (vb true) (hl []) 4 := by
  refine FnOK.of ok156 (Nat.le_refl _) (Nat.le_refl _) fun M => ?_
  have hL := h.len
  have hW := h.wok
  have hH := h.heap
  have hp := h.pc
  obtain ⟨L, H, pc, asked⟩ := s
  simp only at *
  unfold stV
  simp only
  obtain ⟨a0, a1, a2, a3, a4, a5, a6, a7, a8, a9, a10, a11, a12, a13, a14, a15, a16, a17, a18, a19, a20, a21, a22, a23, hLe⟩ := list24 hL
  rw [hLe]
  have hR := fn26 f
  rw [hr] at hR
  have hh := fn155 H.length
  rw [decide_eq_true (by omega)] at hh
  conv => whnf
  repeat (refine cndP_intro (by first | omega | exact rfl | (show _ ≤ 61; omega)) ?_; conv => whnf)
  refine callX hR [.old 0, .old 1, .old 2] rfl rfl rfl rfl ⟨rfl, rfl, trivial⟩ ?_
  conv => whnf
  repeat (refine cndP_intro (by first | omega | exact rfl | (show _ ≤ 61; omega)) ?_; conv => whnf)
  refine brT_false (decide_eq_false (by omega)) ?_
  conv => whnf
  refine callX hh [.old 0, .old 1, .old 3] rfl rfl rfl rfl trivial ?_
  conv => whnf
  rw [← hLe]
  refine LoopS.ren (F2 := []) (fr2 := [(34, .agg (vals (wcells L))), (35, vi (0 : Nat))]) (n2 := 4) [.old 0, .old 1, .old 2, .old 3] ?_ rfl (by decide) ⟨?_, rfl, trivial⟩ trivial
  rotate_left
  · rw [hLe]; rfl
  refine LoopS.ind (S := Nat) (fun i => [(34, .agg (vals (wcells L))), (35, vi i)]) (fun _ => hl []) 4 (fun i => i ≤ 24) (fun i => 24 - i) ?_ 0 (Nat.zero_le _)
  intro i hi ih
  refine LoopS.round rfl ?_
  conv => whnf
  by_cases hlt : i < 24
  · refine brT_true (decide_eq_true (by omega)) ?_
    conv => whnf
    have hl : (vals (wcells L)).length = 48 := by rw [vals_length, wcells_len, hL]
    repeat (refine cndP_intro (by first | omega | exact rfl) ?_; conv => whnf)
    obtain ⟨w, hw⟩ : ∃ w, L[i]? = some w := ⟨_, List.getElem?_eq_getElem (by omega)⟩
    have hz := hW w (List.mem_of_getElem? hw)
    rw [wTake0 hw]
    obtain ⟨wb, wz⟩ := w
    cases wb
    · obtain rfl : wz = 0 := hz rfl
      conv => whnf
      exact LoopS.ren [.old 0, .old 1, .old 2, .old 3] (ih (i + 1) hlt (by omega)) rfl (by decide) ⟨rnAv _ _, congrArg (fun z => some (vi z)) (w64i (k := 25) (by omega) (by omega)).symm, trivial⟩ trivial
    · conv => whnf
      exact LoopS.ren [.old 0, .old 1, .old 2, .old 3] (ih (i + 1) hlt (by omega)) rfl (by decide) ⟨rnAv _ _, congrArg (fun z => some (vi z)) (w64i (k := 25) (by omega) (by omega)).symm, trivial⟩ trivial
  · refine brT_false (decide_eq_false (by omega)) ?_
    conv => whnf
    exact retX [.old 0, .old 1, .old 2, .old 3] (.inl rfl) rfl rfl rfl trivial
theorem fn140 (f : List Ins) (s : Mst) (A : List Int) {x : Ins} (hr : right f = true) (h : Okm f s) (hx : f[s.pc]? = some x) (hA : A.length ≤ 1000000) : FnOK Tryd.prog gidD 140 5 [.sl 2 0 f.length, stV 3 s, .sl 4 0 A.length]
    (hl [(0, .ro shapesV), (2, .ro (insCells f)), (3, .ro (nums s.H)), (4, .ro (nums A))])
    (.tup [stV 5 (stepX x s A).1, .sl 6 0 (stepX x s A).2.1.length, otV 7 (stepX x s A).2.2, vi 0])
    (hl [(5, .row 2 (nums (stepX x s A).1.H)), (6, .row 205 (evCells (stepX x s A).2.1)), (7, .row 2 (nums (stepX x s A).2.2.heap))]) 8 := by
  refine FnOK.of ok140 (Nat.le_refl _) (by decide) fun M => ?_
  have hR := fn156 f s hr h
  have hO := fn157 s h.len h.heap
  have he := right_at hr hx
  have hpl := (right_len hr).2
  have hpc := h.pc
  have hlen := insCells_len f
  have hU := fn89 x (insErr_op he).1 (insErr_op he).2
  have hD := fun hm => do_all (A := A) ⟨⟨_, he⟩, h.len, h.heap, by omega, hA⟩ hm
  have ha := (insErr_loc he).2.1
  have hb := (insErr_loc he).2.2
  have hh := step_heap (s := s) (A := A) (insErr_op he).1 (insErr_op he).2
  have hok := step_ok (A := A) hr h hx
  unfold DoOK at hD
  obtain ⟨L, H, pc, asked⟩ := s
  have hL := h.len
  simp only at hL hpc hx
  unfold stV at hR hO ⊢
  simp only at hR hO ⊢
  obtain ⟨a0, a1, a2, a3, a4, a5, a6, a7, a8, a9, a10, a11, a12, a13, a14, a15, a16, a17, a18, a19, a20, a21, a22, a23, hLe⟩ := list24 hL
  rw [hLe] at hR hO
  rw [show vals (wcells L) = vals (wcells [a0, a1, a2, a3, a4, a5, a6, a7, a8, a9, a10, a11, a12, a13, a14, a15, a16, a17, a18, a19, a20, a21, a22, a23]) from by rw [hLe]]
  conv => whnf
  repeat (refine cndP_intro (by first | omega | exact rfl | (show _ ≤ 61; omega)) ?_; conv => whnf)
  refine callX hR [.old 0, .old 1, .old 2, .old 3] rfl rfl rfl rfl ⟨rfl, rfl, trivial⟩ ?_
  conv => whnf
  repeat (refine cndP_intro (by first | omega | exact rfl | (show _ ≤ 61; omega)) ?_; conv => whnf)
  refine callX hO [.old 0, .old 1, .old 3] rfl rfl rfl rfl ⟨rfl, trivial⟩ ?_
  conv => whnf
  repeat (refine cndP_intro (by omega) ?_; conv => whnf)
  rw [insAt hx]
  conv => whnf
  repeat (refine cndP_intro (by first | omega | exact rfl | (show _ ≤ 61; omega)) ?_; conv => whnf)
  have hus : (usesI x = [x.a, x.b] ∧ movesI x = false) ∨ (usesI x = [x.a] ∧ movesI x = false) ∨ (usesI x = [] ∧ movesI x = true) := by
    have := insErr_op he
    unfold usesI movesI
    by_cases h1 : (4 ≤ x.op ∧ x.op ≤ 12) ∨ x.op = 14
    · exact .inl ⟨if_pos h1, decide_eq_false (by omega)⟩
    · by_cases h2 : x.op = 13 ∨ x.op = 15 ∨ x.op = 17 ∨ x.op = 18
      · exact .inr (.inl ⟨(if_neg h1).trans (if_pos h2), decide_eq_false (by omega)⟩)
      · exact .inr (.inr ⟨(if_neg h1).trans (if_neg h2), decide_eq_true (by omega)⟩)
  rcases hus with ⟨hus, hm⟩ | ⟨hus, hm⟩ | ⟨hus, hm⟩
  · rw [hus] at hU
    refine callX hU [.old 0, .old 1] rfl rfl rfl rfl ⟨rfl, trivial⟩ ?_
    conv => whnf
    refine LoopS.round rfl ?_
    conv => whnf
    repeat (refine cndP_intro (by omega) ?_; conv => whnf)
    have hWa : (V.agg (vals (wcells [a0, a1, a2, a3, a4, a5, a6, a7, a8, a9, a10, a11, a12, a13, a14, a15, a16, a17, a18, a19, a20, a21, a22, a23]) ++ [V.sl 3 0 H.length, vi pc, vi asked])).cells[0 + 0 + x.a.toNat * 2 + 0]? = some (vb (getW [a0, a1, a2, a3, a4, a5, a6, a7, a8, a9, a10, a11, a12, a13, a14, a15, a16, a17, a18, a19, a20, a21, a22, a23] x.a).1) := (wAt rfl ha.1 ha.2 [V.sl 3 0 H.length, vi pc, vi asked] (o := 0 + 0 + x.a.toNat * 2 + 0) (by omega)).1
    rw [hWa]
    cases w1' : (getW [a0, a1, a2, a3, a4, a5, a6, a7, a8, a9, a10, a11, a12, a13, a14, a15, a16, a17, a18, a19, a20, a21, a22, a23] x.a).1
    · have w1 : (getW L x.a).1 = false := by rw [hLe]; exact w1'
      have hu : hasU x ⟨L, H, pc, asked⟩ = false := by unfold hasU; rw [hus]; simp [w1]
      rw [stepU hm hu]
      simp only
      rw [hLe]
      conv => whnf
      repeat (refine cndP_intro (by first | omega | exact rfl | (show _ ≤ 61; omega)) ?_; conv => whnf)
      exact retX [.old 0, .old 1, .old 2, .old 3, .old 4, .old 8, .nil, .nil] (.inl rfl) rfl rfl rfl ⟨⟨_, rfl, rfl⟩, rfl, rfl, trivial⟩
    have w1 : (getW L x.a).1 = true := by rw [hLe]; exact w1'
    conv => whnf
    refine LoopS.round rfl ?_
    conv => whnf
    repeat (refine cndP_intro (by omega) ?_; conv => whnf)
    have hWb : (V.agg (vals (wcells [a0, a1, a2, a3, a4, a5, a6, a7, a8, a9, a10, a11, a12, a13, a14, a15, a16, a17, a18, a19, a20, a21, a22, a23]) ++ [V.sl 3 0 H.length, vi pc, vi asked])).cells[0 + 0 + x.b.toNat * 2 + 0]? = some (vb (getW [a0, a1, a2, a3, a4, a5, a6, a7, a8, a9, a10, a11, a12, a13, a14, a15, a16, a17, a18, a19, a20, a21, a22, a23] x.b).1) := (wAt rfl hb.1 hb.2 [V.sl 3 0 H.length, vi pc, vi asked] (o := 0 + 0 + x.b.toNat * 2 + 0) (by omega)).1
    rw [hWb]
    cases w2' : (getW [a0, a1, a2, a3, a4, a5, a6, a7, a8, a9, a10, a11, a12, a13, a14, a15, a16, a17, a18, a19, a20, a21, a22, a23] x.b).1
    · have w2 : (getW L x.b).1 = false := by rw [hLe]; exact w2'
      have hu : hasU x ⟨L, H, pc, asked⟩ = false := by unfold hasU; rw [hus]; simp [w1, w2]
      rw [stepU hm hu]
      simp only
      rw [hLe]
      conv => whnf
      repeat (refine cndP_intro (by first | omega | exact rfl | (show _ ≤ 61; omega)) ?_; conv => whnf)
      exact retX [.old 0, .old 1, .old 2, .old 3, .old 4, .old 8, .nil, .nil] (.inl rfl) rfl rfl rfl ⟨⟨_, rfl, rfl⟩, rfl, rfl, trivial⟩
    have w2 : (getW L x.b).1 = true := by rw [hLe]; exact w2'
    conv => whnf
    refine LoopS.round rfl ?_
    conv => whnf
    have hD2 := hD ((.inr (by unfold hasU; rw [hus]; simp [w1, w2])))
    generalize stepX x ⟨L, H, pc, asked⟩ A = r at hD2 hok hh ⊢
    obtain ⟨⟨L2, H2, pc2, as2⟩, ev, ⟨how, value, oh⟩⟩ := r
    have hL2 := hok.len
    have hH2 := hok.heap
    simp only at hL2 hH2 hh hD2 ⊢
    obtain ⟨b0, b1, b2, b3, b4, b5, b6, b7, b8, b9, b10, b11, b12, b13, b14, b15, b16, b17, b18, b19, b20, b21, b22, b23, hLe2⟩ := list24 hL2
    rw [hLe] at hD2
    rw [hLe2] at hD2 ⊢
    refine callX hD2 [.old 0, .old 1, .old 9, .old 8, .old 4] rfl rfl rfl rfl ⟨⟨_, rfl, rfl⟩, ⟨_, rfl, rfl⟩, rfl, trivial⟩ ?_
    conv => whnf
    repeat (refine cndP_intro (by first | omega | exact rfl | (show _ ≤ 61; omega)) ?_; conv => whnf)
    by_cases h1 : how = 1
    · rw [if_pos h1] at hh
      subst hh
      have c3 : (Blk.own 2 (vals (nums oh))).sub 0 (oh.length * 1) = vals (nums oh) := subOwn' rfl (by simp [nums])
      have c2 : 0 + oh.length * 1 ≤ (Blk.own 2 (vals (nums oh))).cellsV.length := by rw [show (Blk.own 2 (vals (nums oh))).cellsV = vals (nums oh) from rfl, vnums_len]; omega
      have c4 : ((Blk.own 2 (vals (nums oh))).sub 0 (oh.length * 1)).all V.flat = true := by rw [c3]; exact numFlat oh
      refine brT_true (decide_eq_true h1) ?_
      conv => whnf
      repeat (refine cndP_intro (by first | omega | exact rfl | exact c2 | exact c4 | (show _ ≤ 61; omega)) ?_; conv => whnf)
      rw [Nat.zero_add oh.length]
      exact retX [.old 0, .old 1, .old 2, .old 3, .old 4, .old 12, .old 11, .old 15] (.inl rfl) rfl rfl rfl ⟨⟨_, rfl, rfl⟩, ⟨_, rfl, rfl⟩, ⟨_, rfl, by show ([] : List V) ++ _ = _; rw [c3]; rfl⟩, trivial⟩
    · rw [if_neg h1] at hh
      subst hh
      refine brT_false (decide_eq_false h1) ?_
      conv => whnf
      repeat (refine cndP_intro (by first | omega | exact rfl | (show _ ≤ 61; omega)) ?_; conv => whnf)
      exact retX [.old 0, .old 1, .old 2, .old 3, .old 4, .old 12, .old 11, .nil] (.inl rfl) rfl rfl rfl ⟨⟨_, rfl, rfl⟩, ⟨_, rfl, rfl⟩, rfl, trivial⟩
  · rw [hus] at hU
    refine callX hU [.old 0, .old 1] rfl rfl rfl rfl ⟨rfl, trivial⟩ ?_
    conv => whnf
    refine LoopS.round rfl ?_
    conv => whnf
    repeat (refine cndP_intro (by omega) ?_; conv => whnf)
    have hWa : (V.agg (vals (wcells [a0, a1, a2, a3, a4, a5, a6, a7, a8, a9, a10, a11, a12, a13, a14, a15, a16, a17, a18, a19, a20, a21, a22, a23]) ++ [V.sl 3 0 H.length, vi pc, vi asked])).cells[0 + 0 + x.a.toNat * 2 + 0]? = some (vb (getW [a0, a1, a2, a3, a4, a5, a6, a7, a8, a9, a10, a11, a12, a13, a14, a15, a16, a17, a18, a19, a20, a21, a22, a23] x.a).1) := (wAt rfl ha.1 ha.2 [V.sl 3 0 H.length, vi pc, vi asked] (o := 0 + 0 + x.a.toNat * 2 + 0) (by omega)).1
    rw [hWa]
    cases w1' : (getW [a0, a1, a2, a3, a4, a5, a6, a7, a8, a9, a10, a11, a12, a13, a14, a15, a16, a17, a18, a19, a20, a21, a22, a23] x.a).1
    · have w1 : (getW L x.a).1 = false := by rw [hLe]; exact w1'
      have hu : hasU x ⟨L, H, pc, asked⟩ = false := by unfold hasU; rw [hus]; simp [w1]
      rw [stepU hm hu]
      simp only
      rw [hLe]
      conv => whnf
      repeat (refine cndP_intro (by first | omega | exact rfl | (show _ ≤ 61; omega)) ?_; conv => whnf)
      exact retX [.old 0, .old 1, .old 2, .old 3, .old 4, .old 8, .nil, .nil] (.inl rfl) rfl rfl rfl ⟨⟨_, rfl, rfl⟩, rfl, rfl, trivial⟩
    have w1 : (getW L x.a).1 = true := by rw [hLe]; exact w1'
    conv => whnf
    refine LoopS.round rfl ?_
    conv => whnf
    have hD2 := hD ((.inr (by unfold hasU; rw [hus]; simp [w1])))
    generalize stepX x ⟨L, H, pc, asked⟩ A = r at hD2 hok hh ⊢
    obtain ⟨⟨L2, H2, pc2, as2⟩, ev, ⟨how, value, oh⟩⟩ := r
    have hL2 := hok.len
    have hH2 := hok.heap
    simp only at hL2 hH2 hh hD2 ⊢
    obtain ⟨b0, b1, b2, b3, b4, b5, b6, b7, b8, b9, b10, b11, b12, b13, b14, b15, b16, b17, b18, b19, b20, b21, b22, b23, hLe2⟩ := list24 hL2
    rw [hLe] at hD2
    rw [hLe2] at hD2 ⊢
    refine callX hD2 [.old 0, .old 1, .old 9, .old 8, .old 4] rfl rfl rfl rfl ⟨⟨_, rfl, rfl⟩, ⟨_, rfl, rfl⟩, rfl, trivial⟩ ?_
    conv => whnf
    repeat (refine cndP_intro (by first | omega | exact rfl | (show _ ≤ 61; omega)) ?_; conv => whnf)
    by_cases h1 : how = 1
    · rw [if_pos h1] at hh
      subst hh
      have c3 : (Blk.own 2 (vals (nums oh))).sub 0 (oh.length * 1) = vals (nums oh) := subOwn' rfl (by simp [nums])
      have c2 : 0 + oh.length * 1 ≤ (Blk.own 2 (vals (nums oh))).cellsV.length := by rw [show (Blk.own 2 (vals (nums oh))).cellsV = vals (nums oh) from rfl, vnums_len]; omega
      have c4 : ((Blk.own 2 (vals (nums oh))).sub 0 (oh.length * 1)).all V.flat = true := by rw [c3]; exact numFlat oh
      refine brT_true (decide_eq_true h1) ?_
      conv => whnf
      repeat (refine cndP_intro (by first | omega | exact rfl | exact c2 | exact c4 | (show _ ≤ 61; omega)) ?_; conv => whnf)
      rw [Nat.zero_add oh.length]
      exact retX [.old 0, .old 1, .old 2, .old 3, .old 4, .old 12, .old 11, .old 15] (.inl rfl) rfl rfl rfl ⟨⟨_, rfl, rfl⟩, ⟨_, rfl, rfl⟩, ⟨_, rfl, by show ([] : List V) ++ _ = _; rw [c3]; rfl⟩, trivial⟩
    · rw [if_neg h1] at hh
      subst hh
      refine brT_false (decide_eq_false h1) ?_
      conv => whnf
      repeat (refine cndP_intro (by first | omega | exact rfl | (show _ ≤ 61; omega)) ?_; conv => whnf)
      exact retX [.old 0, .old 1, .old 2, .old 3, .old 4, .old 12, .old 11, .nil] (.inl rfl) rfl rfl rfl ⟨⟨_, rfl, rfl⟩, ⟨_, rfl, rfl⟩, rfl, trivial⟩
  · rw [hus] at hU
    refine callX hU [.old 0, .old 1] rfl rfl rfl rfl ⟨rfl, trivial⟩ ?_
    conv => whnf
    refine LoopS.round rfl ?_
    conv => whnf
    have hD2 := hD ((.inl hm))
    generalize stepX x ⟨L, H, pc, asked⟩ A = r at hD2 hok hh ⊢
    obtain ⟨⟨L2, H2, pc2, as2⟩, ev, ⟨how, value, oh⟩⟩ := r
    have hL2 := hok.len
    have hH2 := hok.heap
    simp only at hL2 hH2 hh hD2 ⊢
    obtain ⟨b0, b1, b2, b3, b4, b5, b6, b7, b8, b9, b10, b11, b12, b13, b14, b15, b16, b17, b18, b19, b20, b21, b22, b23, hLe2⟩ := list24 hL2
    rw [hLe] at hD2
    rw [hLe2] at hD2 ⊢
    refine callX hD2 [.old 0, .old 1, .old 9, .old 8, .old 4] rfl rfl rfl rfl ⟨⟨_, rfl, rfl⟩, ⟨_, rfl, rfl⟩, rfl, trivial⟩ ?_
    conv => whnf
    repeat (refine cndP_intro (by first | omega | exact rfl | (show _ ≤ 61; omega)) ?_; conv => whnf)
    by_cases h1 : how = 1
    · rw [if_pos h1] at hh
      subst hh
      have c3 : (Blk.own 2 (vals (nums oh))).sub 0 (oh.length * 1) = vals (nums oh) := subOwn' rfl (by simp [nums])
      have c2 : 0 + oh.length * 1 ≤ (Blk.own 2 (vals (nums oh))).cellsV.length := by rw [show (Blk.own 2 (vals (nums oh))).cellsV = vals (nums oh) from rfl, vnums_len]; omega
      have c4 : ((Blk.own 2 (vals (nums oh))).sub 0 (oh.length * 1)).all V.flat = true := by rw [c3]; exact numFlat oh
      refine brT_true (decide_eq_true h1) ?_
      conv => whnf
      repeat (refine cndP_intro (by first | omega | exact rfl | exact c2 | exact c4 | (show _ ≤ 61; omega)) ?_; conv => whnf)
      rw [Nat.zero_add oh.length]
      exact retX [.old 0, .old 1, .old 2, .old 3, .old 4, .old 12, .old 11, .old 15] (.inl rfl) rfl rfl rfl ⟨⟨_, rfl, rfl⟩, ⟨_, rfl, rfl⟩, ⟨_, rfl, by show ([] : List V) ++ _ = _; rw [c3]; rfl⟩, trivial⟩
    · rw [if_neg h1] at hh
      subst hh
      refine brT_false (decide_eq_false h1) ?_
      conv => whnf
      repeat (refine cndP_intro (by first | omega | exact rfl | (show _ ≤ 61; omega)) ?_; conv => whnf)
      exact retX [.old 0, .old 1, .old 2, .old 3, .old 4, .old 12, .old 11, .nil] (.inl rfl) rfl rfl rfl ⟨⟨_, rfl, rfl⟩, ⟨_, rfl, rfl⟩, rfl, trivial⟩
end Go.Abs
