/- Contracts: alloc.names, the closure of alloc.Rename, alloc.Rename. -/
import Derived.Test.YtfeokfaccaenhaaDoorE10
set_option linter.unusedVariables false
set_option linter.unusedSimpArgs false
namespace Go.Abs
open Go.Proofs
set_option maxRecDepth 100000
set_option maxHeartbeats 1000000
-- joinery/alloc.names
def c61 : C := .seq (.reg none [1] [⟨some 1, none, .box 33 6 (.tmp 0)⟩, ⟨some 2, none, .mv (.const (.slice none 0 0))⟩]) (.seq (.seq (.reg none [1, 4] [⟨some 3, none, .fa 0 (.tmp 1)⟩, ⟨some 4, none, .ld none (.tmp 3)⟩]) (.block 0 (.seq (.reg none [1, 4, 5] [⟨some 6, none, .bin .eql (.tmp 4) (.const (.int .i64 1))⟩, ⟨some 5, none, .mv (.tmp 6)⟩]) (.cond (.tmp 5) (.seq (.reg none [2] [⟨some 7, none, .fa 1 (.tmp 1)⟩, ⟨some 8, none, .ld none (.tmp 7)⟩, ⟨some 9, none, .bsl 3 1 1 [.int .i64 0] [(0, 0, 1, .tmp 8)]⟩, ⟨some 2, none, .mv (.tmp 9)⟩]) (.ret)) (.seq (.seq (.reg none [1, 4, 10] [⟨some 11, none, .bin .eql (.tmp 4) (.const (.int .i64 2))⟩, ⟨some 10, none, .mv (.tmp 11)⟩]) (.cond (.tmp 10) (.skip) (.reg none [1, 10] [⟨some 12, none, .bin .eql (.tmp 4) (.const (.int .i64 3))⟩, ⟨some 10, none, .mv (.tmp 12)⟩]))) (.cond (.tmp 10) (.seq (.reg none [2] [⟨some 13, none, .fa 1 (.tmp 1)⟩, ⟨some 14, none, .ld none (.tmp 13)⟩, ⟨some 15, none, .fa 2 (.tmp 1)⟩, ⟨some 16, none, .ld none (.tmp 15)⟩, ⟨some 17, none, .bsl 3 2 1 [.int .i64 0] [(0, 0, 1, .tmp 14), (1, 1, 1, .tmp 16)]⟩, ⟨some 2, none, .mv (.tmp 17)⟩]) (.ret)) (.skip))))))) (.seq (.reg none [2] [⟨some 2, none, .mv (.const (.slice none 0 0))⟩]) (.ret)))
theorem ok61 : tabOk Tryd.prog 61 c61 [.tmp 2] 1 = true := by kernel_rfl
-- joinery/alloc.Rename$1
def c60 : C := .seq (.reg none [0, 1, 2] [⟨some 4, none, .mv (.const (.int .i64 0))⟩]) (.seq (.seq (.reg none [0, 1, 2, 5] [⟨some 5, none, .mv (.tmp 0)⟩]) (.block 0 (.seq (.reg none [0, 1, 2, 5, 6] [⟨some 7, none, .ld none (.tmp 1)⟩, ⟨some 8, none, .bin .eql (.tmp 5) (.tmp 7)⟩, ⟨some 6, none, .mv (.tmp 8)⟩]) (.cond (.tmp 6) (.seq (.reg none [4] [⟨some 9, none, .ld none (.tmp 2)⟩, ⟨some 4, none, .mv (.tmp 9)⟩]) (.ret)) (.seq (.reg none [0, 1, 10] [⟨some 11, none, .ld none (.tmp 2)⟩, ⟨some 12, none, .bin .eql (.tmp 5) (.tmp 11)⟩, ⟨some 10, none, .mv (.tmp 12)⟩]) (.cond (.tmp 10) (.seq (.reg none [4] [⟨some 13, none, .ld none (.tmp 1)⟩, ⟨some 4, none, .mv (.tmp 13)⟩]) (.ret)) (.skip))))))) (.seq (.reg none [4] [⟨some 14, none, .mv (.tmp 0)⟩, ⟨some 4, none, .mv (.tmp 14)⟩]) (.ret)))
theorem ok60 : tabOk Tryd.prog 60 c60 [.tmp 4] 3 = true := by kernel_rfl
-- joinery/alloc.Rename
def c27 : C := .seq (.reg none [0, 4, 5] [⟨some 4, none, .box 3 1 (.tmp 1)⟩, ⟨some 5, none, .box 3 1 (.tmp 2)⟩, ⟨some 6, none, .mv (.const (.slice none 0 0))⟩, ⟨some 7, none, .mv (.const (.int .i64 0))⟩]) (.seq (.seq (.reg none [0, 4, 5, 32] [⟨some 12, none, .mv (.tmp 0)⟩, ⟨some 13, none, .call 26 [.tmp 12]⟩, ⟨some 14, none, .un .not (.tmp 13)⟩, ⟨some 15, none, .mv (.tmp 14)⟩, ⟨some 16, some (15, false), .ld none (.tmp 4)⟩, ⟨some 17, some (15, false), .call 58 [.tmp 16]⟩, ⟨some 18, none, .pick (.tmp 15) (.const (.bool true)) (.tmp 17)⟩, ⟨some 19, none, .mv (.tmp 18)⟩, ⟨some 20, some (19, false), .ld none (.tmp 5)⟩, ⟨some 21, some (19, false), .call 58 [.tmp 20]⟩, ⟨some 22, none, .pick (.tmp 19) (.const (.bool true)) (.tmp 21)⟩, ⟨some 23, none, .mv (.tmp 22)⟩, ⟨some 24, some (23, false), .ld none (.tmp 4)⟩, ⟨some 25, some (23, false), .call 59 [.tmp 24]⟩, ⟨some 26, some (23, false), .un .not (.tmp 25)⟩, ⟨some 27, none, .pick (.tmp 23) (.const (.bool true)) (.tmp 26)⟩, ⟨some 28, none, .mv (.tmp 27)⟩, ⟨some 29, some (28, false), .ld none (.tmp 5)⟩, ⟨some 30, some (28, false), .call 59 [.tmp 29]⟩, ⟨some 31, some (28, false), .un .not (.tmp 30)⟩, ⟨some 32, none, .pick (.tmp 28) (.const (.bool true)) (.tmp 31)⟩]) (.cond (.tmp 32) (.seq (.reg none [6, 7] [⟨some 6, none, .mv (.const (.slice none 0 0))⟩, ⟨some 7, none, .mv (.const (.int .i64 1))⟩]) (.ret)) (.skip))) (.seq (.reg none [0, 8] [⟨some 33, none, .clo 60 [.tmp 4, .tmp 5]⟩, ⟨some 8, none, .mv (.tmp 33)⟩]) (.seq (.reg none [0, 8, 9] [⟨some 34, none, .bsl 33 0 6 [.int .i64 0, .int .i64 0, .int .i64 0, .int .i64 0, .int .i64 0, .int .i64 0] []⟩, ⟨some 35, none, .mv (.tmp 0)⟩, ⟨some 36, none, .app 33 6 (.tmp 34) (.tmp 35)⟩, ⟨some 9, none, .mv (.tmp 36)⟩]) (.seq (.seq (.reg none [8, 9, 37, 38, 39] [⟨some 37, none, .mv (.tmp 0)⟩, ⟨some 38, none, .len (.tmp 37)⟩, ⟨some 39, none, .mv (.const (.int .i64 0))⟩]) (.block 0 (.loop [8, 9, 37, 38, 39] (.seq (.reg none [8, 9, 37, 38, 39, 40] [⟨some 40, none, .bin .lss (.tmp 39) (.tmp 38)⟩]) (.seq (.cond (.tmp 40) (.skip) (.exit 0)) (.seq (.block 1 (.seq (.reg none [8, 9, 10, 11, 37, 38, 39] [⟨some 41, none, .mv (.tmp 39)⟩, ⟨some 42, none, .ia 6 (.tmp 37) (.tmp 39)⟩, ⟨some 43, none, .ld (some 6) (.tmp 42)⟩, ⟨some 11, none, .new 33 [.int .i64 0, .int .i64 0, .int .i64 0, .int .i64 0, .int .i64 0, .int .i64 0]⟩, ⟨some 10, none, .mv (.tmp 41)⟩, ⟨none, none, .st 6 (.tmp 11) (.tmp 43)⟩]) (.seq (.reg none [8, 9, 10, 11, 37, 38, 39, 46] [⟨some 44, none, .ld (some 6) (.tmp 11)⟩, ⟨some 45, none, .call 61 [.tmp 44]⟩, ⟨some 46, none, .len (.tmp 45)⟩]) (.block 2 (.seq (.reg none [8, 9, 10, 11, 37, 38, 39, 46, 47] [⟨some 48, none, .bin .eql (.tmp 46) (.const (.int .i64 1))⟩, ⟨some 47, none, .mv (.tmp 48)⟩]) (.cond (.tmp 47) (.reg none [8, 9, 37, 38, 39] [⟨some 49, none, .mv (.tmp 9)⟩, ⟨some 50, none, .mv (.tmp 10)⟩, ⟨some 51, none, .mv (.tmp 8)⟩, ⟨some 52, none, .fa 1 (.tmp 11)⟩, ⟨some 53, none, .ld none (.tmp 52)⟩, ⟨some 54, none, .callv (.tmp 51) [.tmp 53]⟩, ⟨some 55, none, .ia 6 (.tmp 49) (.tmp 50)⟩, ⟨some 56, none, .fa 1 (.tmp 55)⟩, ⟨none, none, .st 1 (.tmp 56) (.tmp 54)⟩]) (.seq (.reg none [8, 9, 10, 11, 37, 38, 39, 57] [⟨some 58, none, .bin .eql (.tmp 46) (.const (.int .i64 2))⟩, ⟨some 57, none, .mv (.tmp 58)⟩]) (.cond (.tmp 57) (.reg (some [[], [0], [0, 1], [0, 1, 2], [0, 1, 2, 3], [0, 1, 2, 3, 4], [0, 1, 2, 3, 4], [0, 1, 2, 3], [0, 1, 2, 3, 4, 5, 6, 7], [0, 1, 2, 3, 4, 5, 6, 7, 8], [0, 1, 2, 3, 4, 5, 6, 7, 8], [0, 1, 2, 3], [2, 3], [2, 3], [2, 3], [], [], []]) [8, 9, 37, 38, 39] [⟨some 59, none, .mv (.tmp 9)⟩, ⟨some 60, none, .mv (.tmp 10)⟩, ⟨some 61, none, .mv (.tmp 9)⟩, ⟨some 62, none, .mv (.tmp 10)⟩, ⟨some 63, none, .mv (.tmp 8)⟩, ⟨some 64, none, .fa 1 (.tmp 11)⟩, ⟨some 65, none, .ld none (.tmp 64)⟩, ⟨some 66, none, .callv (.tmp 63) [.tmp 65]⟩, ⟨some 67, none, .mv (.tmp 8)⟩, ⟨some 68, none, .fa 2 (.tmp 11)⟩, ⟨some 69, none, .ld none (.tmp 68)⟩, ⟨some 70, none, .callv (.tmp 67) [.tmp 69]⟩, ⟨some 71, none, .ia 6 (.tmp 59) (.tmp 60)⟩, ⟨some 72, none, .fa 1 (.tmp 71)⟩, ⟨none, none, .st 1 (.tmp 72) (.tmp 66)⟩, ⟨some 73, none, .ia 6 (.tmp 61) (.tmp 62)⟩, ⟨some 74, none, .fa 2 (.tmp 73)⟩, ⟨none, none, .st 1 (.tmp 74) (.tmp 70)⟩]) (.skip))))))))) (.reg none [8, 9, 37, 38, 39] [⟨some 75, none, .bin .add (.tmp 39) (.const (.int .i64 1))⟩, ⟨some 39, none, .mv (.tmp 75)⟩]))))))) (.seq (.reg none [6, 7] [⟨some 76, none, .mv (.tmp 9)⟩, ⟨some 6, none, .mv (.tmp 76)⟩, ⟨some 7, none, .mv (.const (.int .i64 0))⟩]) (.ret))))))
theorem ok27 : tabOk Tryd.prog 27 c27 [.tmp 6, .tmp 7] 3 = true := by kernel_rfl
def ints (l : List Int) : List Value := l.map i64
def namesL (x : Ins) : List Int := if x.op = 1 then [x.d] else if x.op = 2 ∨ x.op = 3 then [x.d, x.a] else []
theorem fn61 (x : Ins) : FnOK Tryd.prog gidD 61 2 [x.v] (hl []) (.sl 2 0 (namesL x).length) (hl [(2, .row 3 (ints (namesL x)))]) 3 := by
  refine FnOK.of ok61 (Nat.le_refl _) (by decide) fun M => ?_
  conv => whnf
  repeat' ((first | refine brD_intro (fun h => ?_) (fun h => ?_) | refine brT_intro (fun h => ?_) (fun h => ?_)) <;> conv => whnf)
  all_goals first
    | (exfalso; omega)
    | (rw [show namesL x = [x.d] from if_pos (by omega)]; exact retX [.old 0, .old 1, .old 3] (.inl rfl) rfl rfl rfl ⟨⟨_, rfl, rfl⟩, trivial⟩)
    | (rw [show namesL x = [x.d, x.a] from (if_neg (by omega)).trans (if_pos (by omega))]; exact retX [.old 0, .old 1, .old 3] (.inl rfl) rfl rfl rfl ⟨⟨_, rfl, rfl⟩, trivial⟩)
    | (rw [show namesL x = [] from (if_neg (by omega)).trans (if_neg (by omega))]; exact retX [.old 0, .old 1, .nil] (.inl rfl) rfl rfl rfl ⟨rfl, trivial⟩)
def otherI (a b l : Int) : Int := if l = a then b else if l = b then a else l
theorem fn60 (a b l : Int) : FnOK Tryd.prog gidD 60 4 [vi l, .ptr 2 0, .ptr 3 0] (hl [(2, .cel 3 [vi a]), (3, .cel 3 [vi b])]) (vi (otherI a b l)) (hl [(2, .cel 3 [vi a]), (3, .cel 3 [vi b])]) 4 := by
  refine FnOK.of ok60 (Nat.le_refl _) (Nat.le_refl _) fun M => ?_
  conv => whnf
  repeat' ((first | refine brD_intro (fun h => ?_) (fun h => ?_) | refine brT_intro (fun h => ?_) (fun h => ?_)) <;> conv => whnf)
  · rw [show otherI a b l = b from if_pos (by assumption)]
    exact retX [.old 0, .old 1, .old 2, .old 3] (.inl rfl) rfl rfl rfl ⟨⟨_, rfl, rfl⟩, ⟨_, rfl, rfl⟩, trivial⟩
  · rw [show otherI a b l = a from (if_neg (by assumption)).trans (if_pos (by assumption))]
    exact retX [.old 0, .old 1, .old 2, .old 3] (.inl rfl) rfl rfl rfl ⟨⟨_, rfl, rfl⟩, ⟨_, rfl, rfl⟩, trivial⟩
  · rw [show otherI a b l = l from (if_neg (by assumption)).trans (if_neg (by assumption))]
    exact retX [.old 0, .old 1, .old 2, .old 3] (.inl rfl) rfl rfl rfl ⟨⟨_, rfl, rfl⟩, ⟨_, rfl, rfl⟩, trivial⟩
def renI (a b : Int) (x : Ins) : Ins := if x.op = 1 then { x with d := otherI a b x.d } else if x.op = 2 ∨ x.op = 3 then { x with d := otherI a b x.d, a := otherI a b x.a } else x
def isSlot (l : Int) : Bool := !isReg l && isLoc l
def RnE (f : List Ins) (a b : Int) : List Ins × Int := if right f = true ∧ isSlot a = true ∧ isSlot b = true then (f.map (renI a b), 0) else ([], 1)
/-- A cell of a row, written. -/
theorem insSet_d {f : List Ins} {i : Nat} {x : Ins} (h : f[i]? = some x) (z : Int) : List.take (0 + Int.toNat (i : Int) * 6 + 1) (vals (insCells f)) ++ [vi z] ++ List.drop (0 + Int.toNat (i : Int) * 6 + 1 + 1) (vals (insCells f)) = vals (insCells (f.set i { x with d := z })) := by
  have hf : f = f.take i ++ x :: f.drop (i + 1) := by rw [← drop_cons h, List.take_append_drop]
  obtain ⟨hlt, _⟩ := List.getElem?_eq_some_iff.1 h
  have hlen : (f.take i).length = i := by simp; omega
  have hset : f.set i { x with d := z } = f.take i ++ { x with d := z } :: f.drop (i + 1) := by rw [List.set_eq_take_append_cons_drop, if_pos hlt]
  rw [hset, insCells_app, insCells_cons, vals_append, vals_append]
  have hA : vals (insCells f) = vals (insCells (f.take i)) ++ (vals x.cells ++ vals (insCells (f.drop (i + 1)))) := by
    rw [← vals_append, ← vals_append, ← insCells_cons, ← insCells_app, ← hf]
  have hAl : (vals (insCells (f.take i))).length = i * 6 := by rw [valsIns_len, hlen]
  rw [hA, Nat.zero_add, Int.toNat_natCast, List.take_append, List.drop_append, hAl, show i * 6 + 1 - i * 6 = 1 by omega, show i * 6 + 1 + 1 - i * 6 = 2 by omega, List.take_of_length_le (l := vals (insCells (f.take i))) (by omega), List.drop_of_length_le (l := vals (insCells (f.take i))) (by omega)]
  simp [Ins.cells, vals, List.take_append, List.drop_append]
theorem insSet_a {f : List Ins} {i : Nat} {x : Ins} (h : f[i]? = some x) (z : Int) : List.take (0 + Int.toNat (i : Int) * 6 + 2) (vals (insCells f)) ++ [vi z] ++ List.drop (0 + Int.toNat (i : Int) * 6 + 2 + 1) (vals (insCells f)) = vals (insCells (f.set i { x with a := z })) := by
  have hf : f = f.take i ++ x :: f.drop (i + 1) := by rw [← drop_cons h, List.take_append_drop]
  obtain ⟨hlt, _⟩ := List.getElem?_eq_some_iff.1 h
  have hlen : (f.take i).length = i := by simp; omega
  have hset : f.set i { x with a := z } = f.take i ++ { x with a := z } :: f.drop (i + 1) := by rw [List.set_eq_take_append_cons_drop, if_pos hlt]
  rw [hset, insCells_app, insCells_cons, vals_append, vals_append]
  have hA : vals (insCells f) = vals (insCells (f.take i)) ++ (vals x.cells ++ vals (insCells (f.drop (i + 1)))) := by
    rw [← vals_append, ← vals_append, ← insCells_cons, ← insCells_app, ← hf]
  have hAl : (vals (insCells (f.take i))).length = i * 6 := by rw [valsIns_len, hlen]
  rw [hA, Nat.zero_add, Int.toNat_natCast, List.take_append, List.drop_append, hAl, show i * 6 + 2 - i * 6 = 2 by omega, show i * 6 + 2 + 1 - i * 6 = 3 by omega, List.take_of_length_le (l := vals (insCells (f.take i))) (by omega), List.drop_of_length_le (l := vals (insCells (f.take i))) (by omega)]
  simp [Ins.cells, vals, List.take_append, List.drop_append]
theorem set_take_drop {f : List Ins} {i : Nat} {x y : Ins} {g : Ins → Ins} (h : f[i]? = some x) (hy : y = g x) : ((f.take i).map g ++ f.drop i).set i y = (f.take (i + 1)).map g ++ f.drop (i + 1) := by
  obtain ⟨hlt, _⟩ := List.getElem?_eq_some_iff.1 h
  have hlen : ((f.take i).map g).length = i := by simp; omega
  rw [drop_cons h, List.set_append_right _ _ (by omega), hlen, Nat.sub_self, List.set_cons_zero, take_snoc h, List.map_append, hy, List.append_assoc]
  rfl
theorem get_take_drop {f : List Ins} {i : Nat} {x : Ins} {g : Ins → Ins} (h : f[i]? = some x) : ((f.take i).map g ++ f.drop i)[i]? = some x := by
  obtain ⟨hlt, _⟩ := List.getElem?_eq_some_iff.1 h
  have hlen : ((f.take i).map g).length = i := by simp; omega
  rw [List.getElem?_append_right (by omega), hlen, Nat.sub_self, drop_cons h]
  rfl
theorem fn27 (f : List Ins) (a b : Int) (hf : f.length ≤ 300) : FnOK Tryd.prog gidD 27 3 [.sl 2 0 f.length, vi a, vi b] (Abs.hl [(0, .ro shapesV), (2, .ro (insCells f))])
    (.tup [.sl 3 0 (RnE f a b).1.length, vi (RnE f a b).2]) (Abs.hl [(3, .row 33 (insCells (RnE f a b).1))]) 4 := by
  refine FnOK.of ok27 (Nat.le_refl _) (by decide) fun M => ?_
  have hlf := insCells_len f
  conv => whnf
  refine callX (fn26 f) [.old 0, .old 1, .old 2] rfl rfl rfl rfl ⟨rfl, rfl, trivial⟩ ?_
  conv => whnf
  repeat' first
    | (refine brT_intro (fun h => ?_) (fun h => ?_) <;> conv => whnf)
    | (refine callX (fn58 _) [.old 0, .old 1] rfl rfl rfl rfl trivial ?_; conv => whnf)
    | (refine callX (fn59 _) [.old 0, .old 1] rfl rfl rfl rfl trivial ?_; conv => whnf)
  iterate 5
    · rw [show RnE f a b = ([], 1) from if_neg (by intro hh; simp_all [isSlot])]
      exact retX [.old 0, .old 1, .old 2, .nil] (.inl rfl) rfl rfl rfl ⟨rfl, trivial⟩
  have hE : RnE f a b = (f.map (renI a b), 0) := if_pos (by simp_all [isSlot])
  rw [hE]
  have hv2 : 0 + f.length * 6 ≤ (FB.ro (insCells f)).blk.cellsV.length := by show _ ≤ (vals _).length; rw [valsIns_len]; omega
  have hv3 : ((FB.ro (insCells f)).blk.sub 0 (f.length * 6)).all V.flat = true := by rw [subIns]; exact flatIns f
  refine cndP_intro hv2 ?_
  conv => whnf
  refine cndP_intro hv3 ?_
  conv => whnf
  repeat (refine cndP_intro (by omega) ?_; conv => whnf)
  refine LoopS.ren (F2 := [(0, .ro shapesV), (2, .ro (insCells f)), (3, .cel 3 [vi a]), (4, .cel 3 [vi b]), (5, .row 33 (insCells ((f.take 0).map (renI a b) ++ f.drop 0)))])
    (fr2 := [(8, .fn 60 [.ptr 3 0, .ptr 4 0]), (9, .sl 5 0 (0 + f.length)), (37, .sl 2 0 f.length), (38, vi f.length), (39, vi (0 : Nat))]) (n2 := 6)
    [.old 0, .old 1, .old 2, .old 3, .old 4, .old 6] ?_ rfl (by decide) ⟨rfl, rfl, rfl, rfl, rfl, trivial⟩ ⟨rfl, rfl, ⟨_, rfl, rfl⟩, ⟨_, rfl, rfl⟩, ⟨_, rfl, by rw [subIns]; rfl⟩, trivial⟩
  refine LoopS.ind (S := Nat) (fun i => [(8, .fn 60 [.ptr 3 0, .ptr 4 0]), (9, .sl 5 0 (0 + f.length)), (37, .sl 2 0 f.length), (38, vi f.length), (39, vi i)])
    (fun i => Abs.hl [(0, .ro shapesV), (2, .ro (insCells f)), (3, .cel 3 [vi a]), (4, .cel 3 [vi b]), (5, .row 33 (insCells ((f.take i).map (renI a b) ++ f.drop i)))]) 6 (fun i => i ≤ f.length) (fun i => f.length - i) ?_ 0 (Nat.zero_le _)
  intro i hi ih
  refine LoopS.round rfl ?_
  conv => whnf
  by_cases hlt : i < f.length
  · refine brT_true (decide_eq_true (by omega)) ?_
    obtain ⟨x, hx⟩ : ∃ x, f[i]? = some x := ⟨_, List.getElem?_eq_getElem hlt⟩
    have hG := get_take_drop (g := renI a b) hx
    have hS := fun {y} => set_take_drop (y := y) (g := renI a b) hx
    have hGl : (vals (insCells ((f.take i).map (renI a b) ++ f.drop i))).length = f.length * 6 := by rw [valsIns_len]; simp; omega
    have hN := fn61 x
    conv => whnf
    repeat (refine cndP_intro (by omega) ?_; conv => whnf)
    rw [insAt hx]
    conv => whnf
    by_cases h1 : x.op = 1
    · rw [show namesL x = [x.d] from if_pos h1] at hN
      refine callX hN [.old 0, .old 1] rfl rfl rfl rfl trivial ?_
      conv => whnf
      refine callX (fn60 a b x.d) [.old 0, .old 1, .old 3, .old 4] rfl rfl rfl rfl ⟨⟨_, rfl, rfl⟩, ⟨_, rfl, rfl⟩, trivial⟩ ?_
      conv => whnf
      repeat (refine cndP_intro (by omega) ?_; conv => whnf)
      refine LoopS.ren [.old 0, .old 1, .old 2, .old 3, .old 4, .old 5] (ih (i + 1) hlt (by omega)) rfl (by decide) ⟨rfl, rfl, rfl, rfl, congrArg (fun z => some (vi z)) (w64i hlt (by omega)).symm, trivial⟩ ⟨rfl, rfl, ⟨_, rfl, rfl⟩, ⟨_, rfl, rfl⟩, ⟨_, rfl, ?_⟩, trivial⟩
      refine (insSet_d hG (otherI a b x.d)).trans ?_
      rw [hS (show { x with d := otherI a b x.d } = renI a b x from (if_pos h1).symm)]
    · by_cases h2 : x.op = 2 ∨ x.op = 3
      · rw [show namesL x = [x.d, x.a] from (if_neg h1).trans (if_pos h2)] at hN
        refine callX hN [.old 0, .old 1] rfl rfl rfl rfl trivial ?_
        conv => whnf
        refine callX (fn60 a b x.d) [.old 0, .old 1, .old 3, .old 4] rfl rfl rfl rfl ⟨⟨_, rfl, rfl⟩, ⟨_, rfl, rfl⟩, trivial⟩ ?_
        conv => whnf
        refine callX (fn60 a b x.a) [.old 0, .old 1, .old 3, .old 4] rfl rfl rfl rfl ⟨⟨_, rfl, rfl⟩, ⟨_, rfl, rfl⟩, trivial⟩ ?_
        conv => whnf
        repeat (refine cndP_intro (by omega) ?_; conv => whnf)
        obtain ⟨G, hGdef⟩ : ∃ G, G = (f.take i).map (renI a b) ++ f.drop i := ⟨_, rfl⟩
        rw [← hGdef] at hG hGl ⊢
        have hD : List.take (0 + Int.toNat (i : Int) * 6 + 1) (vals (insCells G)) ++ (V.val (i64 (otherI a b x.d))).cells ++ List.drop (0 + Int.toNat (i : Int) * 6 + 1 + 1) (vals (insCells G)) = vals (insCells (G.set i { x with d := otherI a b x.d })) := insSet_d hG _
        rw [hD]
        have hDl : (vals (insCells (G.set i { x with d := otherI a b x.d }))).length = f.length * 6 := by rw [valsIns_len, List.length_set, ← hGl, valsIns_len]
        have hG2 : (G.set i { x with d := otherI a b x.d })[i]? = some { x with d := otherI a b x.d } := by
          rw [List.getElem?_set_self (List.getElem?_eq_some_iff.1 hG).1]
        refine cndP_intro (by omega) ?_
        conv => whnf
        refine LoopS.ren [.old 0, .old 1, .old 2, .old 3, .old 4, .old 5] (ih (i + 1) hlt (by omega)) rfl (by decide) ⟨rfl, rfl, rfl, rfl, congrArg (fun z => some (vi z)) (w64i hlt (by omega)).symm, trivial⟩ ⟨rfl, rfl, ⟨_, rfl, rfl⟩, ⟨_, rfl, rfl⟩, ⟨_, rfl, ?_⟩, trivial⟩
        refine (insSet_a hG2 (otherI a b x.a)).trans ?_
        rw [List.set_set, hGdef, hS (show { x with d := otherI a b x.d, a := otherI a b x.a } = renI a b x from ((if_neg h1).trans (if_pos h2)).symm)]
      · rw [show namesL x = [] from (if_neg h1).trans (if_neg h2)] at hN
        refine callX hN [.old 0, .old 1] rfl rfl rfl rfl trivial ?_
        conv => whnf
        refine LoopS.ren [.old 0, .old 1, .old 2, .old 3, .old 4, .old 5] (ih (i + 1) hlt (by omega)) rfl (by decide) ⟨rfl, rfl, rfl, rfl, congrArg (fun z => some (vi z)) (w64i hlt (by omega)).symm, trivial⟩ ⟨rfl, rfl, ⟨_, rfl, rfl⟩, ⟨_, rfl, rfl⟩, ⟨_, rfl, ?_⟩, trivial⟩
        have h3 : renI a b x = x := (if_neg h1).trans (if_neg h2)
        rw [take_snoc hx, List.map_append, List.map_cons, List.map_nil, h3, List.append_assoc, List.singleton_append, ← drop_cons hx]
  · refine brT_false (decide_eq_false (by omega)) ?_
    have hi : i = f.length := by omega
    subst hi
    clear ih
    conv => whnf
    have hL : (f.map (renI a b)).length = 0 + f.length := by simp
    dsimp only
    rw [hL]
    exact retX [.old 0, .old 1, .old 2, .old 5] (.inl rfl) rfl rfl rfl ⟨⟨_, rfl, by simp⟩, trivial⟩
end Go.Abs
