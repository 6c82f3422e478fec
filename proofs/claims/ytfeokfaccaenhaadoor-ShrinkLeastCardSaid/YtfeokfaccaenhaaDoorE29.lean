/- Contracts: where what only moves leads. -/
import Derived.Test.YtfeokfaccaenhaaDoorE28
import Derived.Test.YtfeokfaccaenhaaDoorM5
import Derived.Test.YtfeokfaccaenhaaDoorE21
set_option linter.unusedVariables false
set_option linter.unusedSimpArgs false
namespace Go.Abs
open Go.Proofs
set_option maxRecDepth 100000
set_option maxHeartbeats 2000000
-- joinery/path.From$1
def c142 : C := .seq (.reg none [0, 1, 2] [⟨some 3, none, .mv (.const (.bool false))⟩]) (.seq (.reg none [1, 2, 4] [⟨some 5, none, .ld none (.tmp 0)⟩, ⟨some 6, none, .fa 0 (.tmp 1)⟩, ⟨some 7, none, .ld none (.tmp 6)⟩, ⟨some 8, none, .ia 6 (.tmp 5) (.tmp 7)⟩, ⟨some 9, none, .ld (some 6) (.tmp 8)⟩, ⟨some 4, none, .new 33 [.int .i64 0, .int .i64 0, .int .i64 0, .int .i64 0, .int .i64 0, .int .i64 0]⟩, ⟨none, none, .st 6 (.tmp 4) (.tmp 9)⟩]) (.seq (.seq (.reg none [1, 2, 4, 18] [⟨some 10, none, .ld (some 6) (.tmp 4)⟩, ⟨some 11, none, .call 125 [.tmp 10]⟩, ⟨some 12, none, .un .not (.tmp 11)⟩, ⟨some 13, none, .mv (.tmp 12)⟩, ⟨some 14, some (13, false), .fa 0 (.tmp 1)⟩, ⟨some 15, some (13, false), .ld none (.tmp 14)⟩, ⟨some 16, some (13, false), .iaa 200 1 (.tmp 2) (.tmp 15)⟩, ⟨some 17, some (13, false), .ld none (.tmp 16)⟩, ⟨some 18, none, .pick (.tmp 13) (.const (.bool true)) (.tmp 17)⟩]) (.cond (.tmp 18) (.seq (.reg none [3] [⟨some 3, none, .mv (.const (.bool false))⟩]) (.ret)) (.skip))) (.seq (.reg none [1, 4] [⟨some 19, none, .fa 0 (.tmp 1)⟩, ⟨some 20, none, .ld none (.tmp 19)⟩, ⟨some 21, none, .iaa 200 1 (.tmp 2) (.tmp 20)⟩, ⟨none, none, .st 1 (.tmp 21) (.const (.bool true))⟩]) (.seq (.reg none [1, 4] [⟨some 22, none, .fa 1 (.tmp 1)⟩, ⟨some 23, none, .ld (some 24) (.tmp 22)⟩, ⟨some 24, none, .ld (some 6) (.tmp 4)⟩, ⟨some 25, none, .call 143 [.tmp 23, .tmp 24]⟩, ⟨some 26, none, .fa 1 (.tmp 1)⟩, ⟨none, none, .st 24 (.tmp 26) (.tmp 25)⟩]) (.seq (.reg none [1, 4] [⟨some 27, none, .fa 25 (.tmp 1)⟩, ⟨some 28, none, .ld none (.tmp 27)⟩, ⟨some 29, none, .bin .add (.tmp 28) (.const (.int .i64 1))⟩, ⟨some 30, none, .fa 25 (.tmp 1)⟩, ⟨none, none, .st 1 (.tmp 30) (.tmp 29)⟩]) (.seq (.reg none [1, 4] [⟨some 31, none, .fa 0 (.tmp 1)⟩, ⟨some 32, none, .ld none (.tmp 31)⟩, ⟨some 33, none, .bin .add (.tmp 32) (.const (.int .i64 1))⟩, ⟨some 34, none, .fa 0 (.tmp 1)⟩, ⟨none, none, .st 1 (.tmp 34) (.tmp 33)⟩]) (.seq (.seq (.reg none [1, 4, 37] [⟨some 35, none, .fa 0 (.tmp 4)⟩, ⟨some 36, none, .ld none (.tmp 35)⟩, ⟨some 37, none, .bin .eql (.tmp 36) (.const (.int .i64 16))⟩]) (.cond (.tmp 37) (.reg none [] [⟨some 38, none, .fa 5 (.tmp 4)⟩, ⟨some 39, none, .ld none (.tmp 38)⟩, ⟨some 40, none, .fa 0 (.tmp 1)⟩, ⟨none, none, .st 1 (.tmp 40) (.tmp 39)⟩]) (.skip))) (.seq (.reg none [3] [⟨some 3, none, .mv (.const (.bool true))⟩]) (.ret)))))))))
theorem ok142 : tabOk Tryd.prog 142 c142 [.tmp 3] 3 = true := by kernel_rfl
-- joinery/path.From
def c115 : C := .seq (.reg none [1, 2, 4] [⟨some 2, none, .box 22 1 (.tmp 0)⟩, ⟨some 4, none, .new 201 [.int .i64 0, .nilIface, .nilIface, .nilIface, .nilIface, .nilIface, .nilIface, .nilIface, .nilIface, .nilIface, .nilIface, .nilIface, .nilIface, .nilIface, .nilIface, .nilIface, .nilIface, .nilIface, .nilIface, .nilIface, .nilIface, .nilIface, .nilIface, .nilIface, .nilIface, .int .i64 0]⟩, ⟨some 5, none, .mv (.const (.int .i64 0))⟩]) (.seq (.seq (.reg none [1, 2, 4, 21] [⟨some 9, none, .ld none (.tmp 2)⟩, ⟨some 10, none, .call 26 [.tmp 9]⟩, ⟨some 11, none, .un .not (.tmp 10)⟩, ⟨some 12, none, .mv (.tmp 11)⟩, ⟨some 13, some (12, false), .mv (.tmp 1)⟩, ⟨some 14, some (12, false), .bin .lss (.tmp 13) (.const (.int .i64 0))⟩, ⟨some 15, none, .pick (.tmp 12) (.const (.bool true)) (.tmp 14)⟩, ⟨some 16, none, .mv (.tmp 15)⟩, ⟨some 17, some (16, false), .mv (.tmp 1)⟩, ⟨some 18, some (16, false), .ld none (.tmp 2)⟩, ⟨some 19, some (16, false), .len (.tmp 18)⟩, ⟨some 20, some (16, false), .bin .geq (.tmp 17) (.tmp 19)⟩, ⟨some 21, none, .pick (.tmp 16) (.const (.bool true)) (.tmp 20)⟩]) (.cond (.tmp 21) (.seq (.reg none [4, 5] [⟨some 22, none, .bld 201 [.int .i64 0, .nilIface, .nilIface, .nilIface, .nilIface, .nilIface, .nilIface, .nilIface, .nilIface, .nilIface, .nilIface, .nilIface, .nilIface, .nilIface, .nilIface, .nilIface, .nilIface, .nilIface, .nilIface, .nilIface, .nilIface, .nilIface, .nilIface, .nilIface, .nilIface, .int .i64 0] []⟩, ⟨none, none, .st 26 (.tmp 4) (.tmp 22)⟩, ⟨some 5, none, .mv (.const (.int .i64 1))⟩]) (.ret)) (.skip))) (.seq (.reg none [1, 2, 4, 6] [⟨some 6, none, .new 239 [.bool false, .bool false, .bool false, .bool false, .bool false, .bool false, .bool false, .bool false, .bool false, .bool false, .bool false, .bool false, .bool false, .bool false, .bool false, .bool false, .bool false, .bool false, .bool false, .bool false, .bool false, .bool false, .bool false, .bool false, .bool false, .bool false, .bool false, .bool false, .bool false, .bool false, .bool false, .bool false, .bool false, .bool false, .bool false, .bool false, .bool false, .bool false, .bool false, .bool false, .bool false, .bool false, .bool false, .bool false, .bool false, .bool false, .bool false, .bool false, .bool false, .bool false, .bool false, .bool false, .bool false, .bool false, .bool false, .bool false, .bool false, .bool false, .bool false, .bool false, .bool false, .bool false, .bool false, .bool false, .bool false, .bool false, .bool false, .bool false, .bool false, .bool false, .bool false, .bool false, .bool false, .bool false, .bool false, .bool false, .bool false, .bool false, .bool false, .bool false, .bool false, .bool false, .bool false, .bool false, .bool false, .bool false, .bool false, .bool false, .bool false, .bool false, .bool false, .bool false, .bool false, .bool false, .bool false, .bool false, .bool false, .bool false, .bool false, .bool false, .bool false, .bool false, .bool false, .bool false, .bool false, .bool false, .bool false, .bool false, .bool false, .bool false, .bool false, .bool false, .bool false, .bool false, .bool false, .bool false, .bool false, .bool false, .bool false, .bool false, .bool false, .bool false, .bool false, .bool false, .bool false, .bool false, .bool false, .bool false, .bool false, .bool false, .bool false, .bool false, .bool false, .bool false, .bool false, .bool false, .bool false, .bool false, .bool false, .bool false, .bool false, .bool false, .bool false, .bool false, .bool false, .bool false, .bool false, .bool false, .bool false, .bool false, .bool false, .bool false, .bool false, .bool false, .bool false, .bool false, .bool false, .bool false, .bool false, .bool false, .bool false, .bool false, .bool false, .bool false, .bool false, .bool false, .bool false, .bool false, .bool false, .bool false, .bool false, .bool false, .bool false, .bool false, .bool false, .bool false, .bool false, .bool false, .bool false, .bool false, .bool false, .bool false, .bool false, .bool false, .bool false, .bool false, .bool false, .bool false, .bool false, .bool false, .bool false, .bool false, .bool false, .bool false, .bool false, .bool false, .bool false, .bool false, .bool false, .bool false]⟩]) (.seq (.reg none [2, 4, 6, 7] [⟨some 23, none, .mv (.tmp 1)⟩, ⟨some 24, none, .call 141 []⟩, ⟨some 25, none, .bld 201 [.int .i64 0, .nilIface, .nilIface, .nilIface, .nilIface, .nilIface, .nilIface, .nilIface, .nilIface, .nilIface, .nilIface, .nilIface, .nilIface, .nilIface, .nilIface, .nilIface, .nilIface, .nilIface, .nilIface, .nilIface, .nilIface, .nilIface, .nilIface, .nilIface, .nilIface, .int .i64 0] [(0, 0, 1, .tmp 23), (1, 1, 24, .tmp 24)]⟩, ⟨some 7, none, .new 201 [.int .i64 0, .nilIface, .nilIface, .nilIface, .nilIface, .nilIface, .nilIface, .nilIface, .nilIface, .nilIface, .nilIface, .nilIface, .nilIface, .nilIface, .nilIface, .nilIface, .nilIface, .nilIface, .nilIface, .nilIface, .nilIface, .nilIface, .nilIface, .nilIface, .nilIface, .int .i64 0]⟩, ⟨none, none, .st 26 (.tmp 7) (.tmp 25)⟩]) (.seq (.reg none [4, 6, 7, 8] [⟨some 26, none, .clo 142 [.tmp 2, .tmp 7, .tmp 6]⟩, ⟨some 8, none, .mv (.tmp 26)⟩]) (.seq (.block 0 (.loop [4, 6, 7, 8] (.seq (.seq (.reg none [4, 6, 7, 8, 28] [⟨some 27, none, .mv (.tmp 8)⟩, ⟨some 28, none, .callv (.tmp 27) []⟩]) (.cond (.tmp 28) (.skip) (.exit 0))) (.block 1 (.skip))))) (.seq (.seq (.reg none [4, 7, 32] [⟨some 29, none, .fa 0 (.tmp 7)⟩, ⟨some 30, none, .ld none (.tmp 29)⟩, ⟨some 31, none, .iaa 200 1 (.tmp 6) (.tmp 30)⟩, ⟨some 32, none, .ld none (.tmp 31)⟩]) (.cond (.tmp 32) (.seq (.reg none [4, 5] [⟨some 33, none, .call 141 []⟩, ⟨some 34, none, .bld 201 [.int .i64 0, .nilIface, .nilIface, .nilIface, .nilIface, .nilIface, .nilIface, .nilIface, .nilIface, .nilIface, .nilIface, .nilIface, .nilIface, .nilIface, .nilIface, .nilIface, .nilIface, .nilIface, .nilIface, .nilIface, .nilIface, .nilIface, .nilIface, .nilIface, .nilIface, .int .i64 0] [(0, 0, 1, .const (.int .i64 (-1))), (1, 1, 24, .tmp 33)]⟩, ⟨none, none, .st 26 (.tmp 4) (.tmp 34)⟩, ⟨some 5, none, .mv (.const (.int .i64 0))⟩]) (.ret)) (.skip))) (.seq (.reg none [4, 5] [⟨some 35, none, .ld (some 26) (.tmp 7)⟩, ⟨none, none, .st 26 (.tmp 4) (.tmp 35)⟩, ⟨some 5, none, .mv (.const (.int .i64 0))⟩]) (.ret))))))))
theorem ok115 : tabOk Tryd.prog 115 c115 [.cell 4 201 (some 26), .tmp 5] 2 = true := by kernel_rfl
def bits (m : List Bool) : List Value := m.map .bool
def ptC (p : Int) (T : List So) (n : Int) : List Value := i64 p :: (tabC T ++ [i64 n])
theorem bits_at {m : List Bool} {i o : Nat} {b : Bool} (ho : o = i) (h : m[i]? = some b) : (vals (bits m))[o]? = some (vb b) := by subst ho; simp [vals, bits, h]
theorem bits_set (m : List Bool) (i : Nat) (b : Bool) : bits (m.set i b) = (bits m).set i (.bool b) := by simp [bits, List.map_set]
theorem w64s' {i : Nat} (h : i ≤ 1000000) : IntKind.i64.wrap ((i : Int) + 1) = ((i + 1 : Nat) : Int) := w64i (k := 1000001) (by omega) (by omega)
section
variable {f : List Ins} {p n : Nat} {T : List So} {met : List Bool} {x : Ins}
def frH (f : List Ins) (p n : Nat) (T : List So) (met : List Bool) : FH := [(2, .cel 22 [.sl 5 0 f.length]), (3, .row 201 (ptC p T n)), (4, .row 239 (bits met))]
theorem fn142n (hr : right f = true) (hx : f[p]? = some x) (hT : Okt T) (hl : met.length = 200) (h : movesI x = false ∨ (movesI x = true ∧ met[p]? = some true)) :
    FnOK Tryd.prog gidD 142 6 [.ptr 2 0, .ptr 3 0, .ptr 4 0] (Abs.hl ((0, .ro shapesV) :: (5, .ro (insCells f)) :: frH f p n T met)) (vb false) (Abs.hl (frH f p n T met)) 6 := by
  refine FnOK.of ok142 (Nat.le_refl _) (Nat.le_refl _) fun M => ?_
  have hp := (List.getElem?_eq_some_iff.1 hx).1
  have hpl := (right_len hr).2
  have hlen := insCells_len f
  have hM := fn125 x
  unfold frH ptC
  obtain ⟨v0, v1, v2, v3, v4, v5, v6, v7, v8, v9, v10, v11, v12, v13, v14, v15, v16, v17, v18, v19, v20, v21, v22, v23, hTe⟩ := list24 (tabC_len hT.len)
  rw [hTe]
  conv => whnf
  repeat (refine cndP_intro (by omega) ?_; conv => whnf)
  rw [insAt hx]
  conv => whnf
  repeat (refine cndP_intro (by first | omega | exact rfl) ?_; conv => whnf)
  refine callX hM [.old 0, .old 1] rfl rfl rfl rfl trivial ?_
  rcases h with h | ⟨h, hm⟩
  · rw [h]
    conv => whnf
    exact retX [.old 0, .old 1, .old 2, .old 3, .old 4, .old 5] (.inl rfl) rfl rfl rfl ⟨⟨_, rfl, rfl⟩, ⟨_, rfl, rfl⟩, ⟨_, rfl, rfl⟩, trivial⟩
  · rw [h]
    conv => whnf
    repeat (refine cndP_intro (by first | omega | exact rfl) ?_; conv => whnf)
    rw [show (vals (bits met))[0 + Int.toNat (p : Int) * 1]? = some (vb true) from bits_at (by omega) hm]
    conv => whnf
    exact retX [.old 0, .old 1, .old 2, .old 3, .old 4, .old 5] (.inl rfl) rfl rfl rfl ⟨⟨_, rfl, rfl⟩, ⟨_, rfl, rfl⟩, ⟨_, rfl, rfl⟩, trivial⟩
theorem fn142y (hr : right f = true) (hx : f[p]? = some x) (hT : Okt T) (hl : met.length = 200) (hn : n ≤ 1000) (h : movesI x = true) (hm : met[p]? = some false) :
    FnOK Tryd.prog gidD 142 6 [.ptr 2 0, .ptr 3 0, .ptr 4 0] (Abs.hl ((0, .ro shapesV) :: (5, .ro (insCells f)) :: frH f p n T met)) (vb true) (Abs.hl (frH f (nextP x p) (n + 1) (afterT T x) (met.set p true))) 6 := by
  refine FnOK.of ok142 (Nat.le_refl _) (Nat.le_refl _) fun M => ?_
  have hp := (List.getElem?_eq_some_iff.1 hx).1
  have hpl := (right_len hr).2
  have hlen := insCells_len f
  have hM := fn125 x
  obtain ⟨hd, ha, _⟩ := insErr_loc (right_at hr hx)
  have hto := right_to hr hx
  have hA := fn143 T x hT hd ha
  have hok := after_ok hT hd ha
  have hw1 := w64s' (i := p) (by omega)
  have hw2 := w64s' (i := n) (by omega)
  have hbl : (vals (bits met)).length = 200 := by rw [vals_length, bits, List.length_map, hl]
  have hN : nextP x p = if x.op = 16 then x.to.toNat else p + 1 := rfl
  generalize nextP x p = q at hN ⊢
  generalize afterT T x = T2 at hA hok ⊢
  unfold frH ptC
  unfold tabV at hA
  obtain ⟨v0, v1, v2, v3, v4, v5, v6, v7, v8, v9, v10, v11, v12, v13, v14, v15, v16, v17, v18, v19, v20, v21, v22, v23, hTe⟩ := list24 (tabC_len hT.len)
  obtain ⟨w0, w1, w2, w3, w4, w5, w6, w7, w8, w9, w10, w11, w12, w13, w14, w15, w16, w17, w18, w19, w20, w21, w22, w23, hTe2⟩ := list24 (tabC_len hok.len)
  have hfw := tabFlat T2
  rw [hTe, hTe2] at hA
  rw [hTe2] at hfw
  rw [hTe, hTe2]
  conv => whnf
  repeat (refine cndP_intro (by omega) ?_; conv => whnf)
  rw [insAt hx]
  conv => whnf
  repeat (refine cndP_intro (by first | omega | exact rfl) ?_; conv => whnf)
  refine callX hM [.old 0, .old 1] rfl rfl rfl rfl trivial ?_
  rw [h]
  conv => whnf
  repeat (refine cndP_intro (by first | omega | exact rfl) ?_; conv => whnf)
  rw [show (vals (bits met))[0 + Int.toNat (p : Int) * 1]? = some (vb false) from bits_at (by omega) hm]
  conv => whnf
  repeat (refine cndP_intro (by first | omega | exact rfl) ?_; conv => whnf)
  refine callX hA [.old 0, .old 1] rfl rfl rfl rfl trivial ?_
  conv => whnf
  repeat (refine cndP_intro (by first | omega | exact rfl | exact hfw) ?_; conv => whnf)
  have hmet : ∀ {o : Nat}, o = p → List.take o (vals (bits met)) ++ (V.val (Value.bool true)).cells ++ List.drop (o + 1) (vals (bits met)) = vals (bits (met.set p true)) := by
    intro o ho
    rw [bits_set]
    exact rowSet1 ho (by rw [bits, List.length_map, hl]; omega) _
  by_cases h16 : x.op = 16
  · rw [if_pos h16] at hN
    refine brT_true (decide_eq_true h16) ?_
    conv => whnf
    repeat (refine cndP_intro (by first | omega | exact rfl) ?_; conv => whnf)
    have e : (q : Int) = x.to := by have := hto (.inl h16); omega
    rw [hw2, e]
    exact retX [.old 0, .old 1, .old 2, .old 3, .old 4, .old 5] (.inl rfl) rfl rfl rfl ⟨⟨_, rfl, rfl⟩, ⟨_, rfl, rfl⟩, ⟨_, rfl, hmet (by omega)⟩, trivial⟩
  · rw [if_neg h16] at hN
    subst hN
    refine brT_false (decide_eq_false h16) ?_
    conv => whnf
    rw [hw1, hw2]
    exact retX [.old 0, .old 1, .old 2, .old 3, .old 4, .old 5] (.inl rfl) rfl rfl rfl ⟨⟨_, rfl, rfl⟩, ⟨_, rfl, rfl⟩, ⟨_, rfl, hmet (by omega)⟩, trivial⟩
end
theorem ptFlat (p n : Int) {vs : List Value} (h : (vals vs).all V.flat = true) : (vals (i64 p :: (vs ++ [i64 n]))).all V.flat = true := by
  have e : vals (i64 p :: (vs ++ [i64 n])) = [vi p] ++ (vals vs ++ [vi n]) := by simp [vals]
  rw [e, List.all_append, List.all_append, h]
  rfl
def pathR (r : Option (Nat × List So × Nat)) : List Value := match r with
  | some (p, T, n) => ptC p T n
  | none => ptC (-1) newT 0
def pthH (f : List Ins) (x : PS) : FH := [(0, .ro shapesV), (2, .ro (insCells f)), (3, .cel 22 [.sl 2 0 f.length]), (4, .row 201 (i64 0 :: (List.replicate 24 .nilIface ++ [i64 0]))), (5, .row 239 (bits x.met)), (6, .row 201 (ptC x.p x.T x.n))]
theorem fn115 (f : List Ins) (at_ : Nat) (hr : right f = true) (ha : at_ < f.length) : FnOK Tryd.prog gidD 115 3 [.sl 2 0 f.length, vi at_] (hl [(0, .ro shapesV), (2, .ro (insCells f))]) (.tup [.agg (vals (pathR (pathE f at_))), vi 0]) (hl []) 3 := by
  refine FnOK.of ok115 (Nat.le_refl _) (Nat.le_refl _) fun M => ?_
  have hR := fn26 f
  rw [hr] at hR
  have hpl := (right_len hr).2
  have hNw := fn141
  conv => whnf
  refine callX hR [.old 0, .old 1, .old 2] rfl rfl rfl rfl ⟨rfl, rfl, trivial⟩ ?_
  conv => whnf
  refine brT_false (decide_eq_false (by omega)) ?_
  conv => whnf
  refine callX hNw [.old 0, .old 1] rfl rfl rfl rfl trivial ?_
  conv => whnf
  repeat (refine cndP_intro (by first | exact rfl) ?_; conv => whnf)
  refine LoopS.ren (F2 := pthH f ⟨at_, newT, 0, List.replicate 200 false⟩) (fr2 := [(4, .ptr 4 0), (6, .ptr 5 0), (7, .ptr 6 0), (8, .fn 142 [.ptr 3 0, .ptr 6 0, .ptr 5 0])]) (n2 := 7) [.old 0, .old 1, .old 2, .old 3, .old 4, .old 5, .old 6] ?_ rfl (by decide) ⟨rfl, rfl, rfl, rfl, trivial⟩
    ⟨rfl, rfl, ⟨_, rfl, rfl⟩, ⟨_, rfl, rfl⟩, ⟨_, rfl, rfl⟩, ⟨_, rfl, rfl⟩, trivial⟩
  refine LoopS.ind (S := PS) (fun _ => [(4, .ptr 4 0), (6, .ptr 5 0), (7, .ptr 6 0), (8, .fn 142 [.ptr 3 0, .ptr 6 0, .ptr 5 0])]) (fun x => hl (pthH f x)) 7 (PInv f at_) (fun x => f.length + 1 - x.n) ?_ _ (pInv_begin ha)
  rintro ⟨p, T, n, met⟩ hi ih
  have hp := hi.p
  have hT := hi.T
  have hml := hi.len
  have hn := pInv_n hi
  simp only at hp hT hml hn
  obtain ⟨x, hx⟩ : ∃ x, f[p]? = some x := ⟨_, List.getElem?_eq_getElem hp⟩
  obtain ⟨bb, hb⟩ : ∃ b, met[p]? = some b := ⟨_, List.getElem?_eq_getElem (by omega)⟩
  refine LoopS.round rfl ?_
  by_cases hgo : movesI x = true ∧ bb = false
  · obtain ⟨hm, rfl⟩ := hgo
    conv => whnf
    refine callX (fn142y (n := n) hr hx hT hml (by omega) hm hb) [.old 0, .old 1, .old 3, .old 6, .old 5, .old 2] rfl rfl rfl rfl ⟨rfl, rfl, ⟨_, rfl, rfl⟩, ⟨_, rfl, rfl⟩, ⟨_, rfl, rfl⟩, trivial⟩ ?_
    conv => whnf
    exact LoopS.ren [.old 0, .old 1, .old 2, .old 3, .old 4, .old 5, .old 6] (ih ⟨nextP x p, afterT T x, n + 1, met.set p true⟩ (pInv_next hr hi hx hm hb) (by show f.length + 1 - (n + 1) < f.length + 1 - n; omega)) rfl (by decide) ⟨rfl, rfl, rfl, rfl, trivial⟩
      ⟨rfl, rfl, ⟨_, rfl, rfl⟩, ⟨_, rfl, rfl⟩, ⟨_, rfl, rfl⟩, ⟨_, rfl, rfl⟩, trivial⟩
  · have hstop : movesI x = false ∨ (movesI x = true ∧ met[p]? = some true) := by
      cases hm : movesI x
      · exact .inl rfl
      · cases bb
        · exact absurd ⟨hm, rfl⟩ hgo
        · exact .inr ⟨rfl, hb⟩
    clear ih
    conv => whnf
    refine callX (fn142n (n := n) hr hx hT hml hstop) [.old 0, .old 1, .old 3, .old 6, .old 5, .old 2] rfl rfl rfl rfl ⟨rfl, rfl, ⟨_, rfl, rfl⟩, ⟨_, rfl, rfl⟩, ⟨_, rfl, rfl⟩, trivial⟩ ?_
    have hend : (bb = true ∧ pathE f at_ = none) ∨ (bb = false ∧ pathE f at_ = some (p, T, n)) := by
      cases bb
      · right
        rcases hstop with h | ⟨h, h2⟩
        · exact ⟨rfl, (pInv_end hr hi hx h).1⟩
        · rw [hb] at h2; cases h2
      · exact .inl ⟨rfl, pInv_loop hr ha hi hb⟩
    obtain ⟨v0, v1, v2, v3, v4, v5, v6, v7, v8, v9, v10, v11, v12, v13, v14, v15, v16, v17, v18, v19, v20, v21, v22, v23, hTe⟩ := list24 (tabC_len hT.len)
    have hfw := tabFlat T
    rw [hTe] at hfw
    rcases hend with ⟨rfl, hE⟩ | ⟨rfl, hE⟩
    · rw [hE]
      conv => whnf
      repeat (refine cndP_intro (by first | omega | exact rfl) ?_; conv => whnf)
      rw [show (vals (bits met))[0 + Int.toNat (p : Int) * 1]? = some (vb true) from bits_at (by omega) hb]
      conv => whnf
      refine callX hNw [.old 0, .old 1] rfl rfl rfl rfl trivial ?_
      conv => whnf
      repeat (refine cndP_intro (by first | exact rfl) ?_; conv => whnf)
      exact retX [.old 0, .old 1, .old 2] (.inl rfl) rfl rfl rfl trivial
    · rw [hE]
      unfold pathR ptC
      simp only
      rw [hTe]
      conv => whnf
      repeat (refine cndP_intro (by first | omega | exact rfl) ?_; conv => whnf)
      rw [show (vals (bits met))[0 + Int.toNat (p : Int) * 1]? = some (vb false) from bits_at (by omega) hb]
      conv => whnf
      repeat (refine cndP_intro (by first | exact rfl | exact ptFlat _ _ hfw) ?_; conv => whnf)
      exact retX [.old 0, .old 1, .old 2] (.inl rfl) rfl rfl rfl trivial
end Go.Abs
