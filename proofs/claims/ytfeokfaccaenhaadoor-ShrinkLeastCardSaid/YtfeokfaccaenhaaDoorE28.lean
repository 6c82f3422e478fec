/- Contracts: tables of sources. -/
import Derived.Test.YtfeokfaccaenhaaDoorE23
import Derived.Test.YtfeokfaccaenhaaDoorB7
import Derived.Test.YtfeokfaccaenhaaDoorM1
set_option linter.unusedVariables false
set_option linter.unusedSimpArgs false
namespace Go.Abs
open Go.Proofs
set_option maxRecDepth 100000
set_option maxHeartbeats 2000000
-- joinery/env.New
def c141 : C := .seq (.reg none [0] [⟨some 0, none, .new 125 [.nilIface, .nilIface, .nilIface, .nilIface, .nilIface, .nilIface, .nilIface, .nilIface, .nilIface, .nilIface, .nilIface, .nilIface, .nilIface, .nilIface, .nilIface, .nilIface, .nilIface, .nilIface, .nilIface, .nilIface, .nilIface, .nilIface, .nilIface, .nilIface]⟩]) (.seq (.reg none [0, 1] [⟨some 1, none, .new 125 [.nilIface, .nilIface, .nilIface, .nilIface, .nilIface, .nilIface, .nilIface, .nilIface, .nilIface, .nilIface, .nilIface, .nilIface, .nilIface, .nilIface, .nilIface, .nilIface, .nilIface, .nilIface, .nilIface, .nilIface, .nilIface, .nilIface, .nilIface, .nilIface]⟩]) (.seq (.seq (.reg none [0, 1, 3] [⟨some 3, none, .mv (.const (.int .i64 0))⟩]) (.block 0 (.loop [0, 1, 3] (.seq (.reg none [0, 1, 3, 4] [⟨some 4, none, .bin .lss (.tmp 3) (.const (.int .i64 24))⟩]) (.seq (.cond (.tmp 4) (.skip) (.exit 0)) (.seq (.block 1 (.seq (.reg none [0, 1, 2, 3] [⟨some 5, none, .mv (.tmp 3)⟩, ⟨some 2, none, .mv (.tmp 5)⟩]) (.reg none [0, 1, 3] [⟨some 6, none, .mv (.tmp 2)⟩, ⟨some 7, none, .mv (.tmp 2)⟩, ⟨some 8, none, .bld 248 [.int .i64 0] [(0, 0, 1, .tmp 7)]⟩, ⟨some 9, none, .ifc 248 (.tmp 8)⟩, ⟨some 10, none, .iaa 24 1 (.tmp 1) (.tmp 6)⟩, ⟨none, none, .st 1 (.tmp 10) (.tmp 9)⟩]))) (.reg none [0, 1, 3] [⟨some 11, none, .bin .add (.tmp 3) (.const (.int .i64 1))⟩, ⟨some 3, none, .mv (.tmp 11)⟩]))))))) (.seq (.reg none [0] [⟨some 12, none, .ld (some 24) (.tmp 1)⟩, ⟨none, none, .st 24 (.tmp 0) (.tmp 12)⟩]) (.ret))))
theorem ok141 : tabOk Tryd.prog 141 c141 [.cell 0 125 (some 24)] 0 = true := by kernel_rfl
-- joinery/env.may
def c179 : C := .seq (.reg none [0] [⟨some 2, none, .mv (.const (.bool false))⟩]) (.seq (.seq (.reg none [0, 3, 4] [⟨some 8, none, .mv (.tmp 0)⟩, ⟨some 9, none, .asr 248 [.int .i64 0] (.tmp 8)⟩, ⟨some 7, none, .mv (.tmp 9)⟩, ⟨some 10, none, .ext (.tmp 7) 0⟩, ⟨some 11, none, .ext (.tmp 7) 1⟩, ⟨some 3, none, .new 248 [.int .i64 0]⟩, ⟨none, none, .st 1 (.tmp 3) (.tmp 10)⟩, ⟨some 4, none, .mv (.tmp 11)⟩]) (.seq (.reg none [0, 3, 12] [⟨some 12, none, .mv (.tmp 4)⟩]) (.cond (.tmp 12) (.seq (.reg none [2] [⟨some 13, none, .fa 0 (.tmp 3)⟩, ⟨some 14, none, .ld none (.tmp 13)⟩, ⟨some 15, none, .call 59 [.tmp 14]⟩, ⟨some 2, none, .mv (.tmp 15)⟩]) (.ret)) (.skip)))) (.seq (.reg none [6] [⟨some 17, none, .mv (.tmp 0)⟩, ⟨some 18, none, .asr 245 [.int .i64 0] (.tmp 17)⟩, ⟨some 16, none, .mv (.tmp 18)⟩, ⟨some 19, none, .ext (.tmp 16) 0⟩, ⟨some 20, none, .ext (.tmp 16) 1⟩, ⟨some 5, none, .new 245 [.int .i64 0]⟩, ⟨none, none, .st 1 (.tmp 5) (.tmp 19)⟩, ⟨some 6, none, .mv (.tmp 20)⟩]) (.seq (.reg none [2] [⟨some 21, none, .mv (.tmp 6)⟩, ⟨some 2, none, .mv (.tmp 21)⟩]) (.ret))))
theorem ok179 : tabOk Tryd.prog 179 c179 [.tmp 2] 1 = true := by kernel_rfl
-- joinery/env.Good
def c174 : C := .seq (.reg none [1] [⟨some 1, none, .box 125 24 (.tmp 0)⟩, ⟨some 2, none, .mv (.const (.bool false))⟩]) (.seq (.seq (.reg none [5, 6] [⟨some 5, none, .ld (some 24) (.tmp 1)⟩, ⟨some 6, none, .mv (.const (.int .i64 0))⟩]) (.block 0 (.loop [5, 6] (.seq (.reg none [5, 6, 7] [⟨some 7, none, .bin .lss (.tmp 6) (.const (.int .i64 24))⟩]) (.seq (.cond (.tmp 7) (.skip) (.exit 0)) (.seq (.block 1 (.seq (.reg none [4, 5, 6] [⟨some 8, none, .ixa 24 1 none (.tmp 5) (.tmp 6)⟩, ⟨some 4, none, .mv (.tmp 8)⟩]) (.seq (.reg none [5, 6, 11] [⟨some 9, none, .mv (.tmp 4)⟩, ⟨some 10, none, .call 179 [.tmp 9]⟩, ⟨some 11, none, .un .not (.tmp 10)⟩]) (.cond (.tmp 11) (.seq (.reg none [2] [⟨some 2, none, .mv (.const (.bool false))⟩]) (.ret)) (.skip))))) (.reg none [5, 6] [⟨some 12, none, .bin .add (.tmp 6) (.const (.int .i64 1))⟩, ⟨some 6, none, .mv (.tmp 12)⟩]))))))) (.seq (.reg none [2] [⟨some 2, none, .mv (.const (.bool true))⟩]) (.ret)))
theorem ok174 : tabOk Tryd.prog 174 c174 [.tmp 2] 1 = true := by kernel_rfl
-- joinery/env.good
def c159 : C := .seq (.reg none [1, 2] [⟨some 1, none, .box 125 24 (.tmp 0)⟩, ⟨some 2, none, .new 125 [.nilIface, .nilIface, .nilIface, .nilIface, .nilIface, .nilIface, .nilIface, .nilIface, .nilIface, .nilIface, .nilIface, .nilIface, .nilIface, .nilIface, .nilIface, .nilIface, .nilIface, .nilIface, .nilIface, .nilIface, .nilIface, .nilIface, .nilIface, .nilIface]⟩]) (.seq (.seq (.reg none [1, 2, 4] [⟨some 3, none, .ld (some 24) (.tmp 1)⟩, ⟨some 4, none, .call 174 [.tmp 3]⟩]) (.cond (.tmp 4) (.seq (.reg none [2] [⟨some 5, none, .ld (some 24) (.tmp 1)⟩, ⟨none, none, .st 24 (.tmp 2) (.tmp 5)⟩]) (.ret)) (.skip))) (.seq (.reg none [2] [⟨some 6, none, .call 141 []⟩, ⟨none, none, .st 24 (.tmp 2) (.tmp 6)⟩]) (.ret)))
theorem ok159 : tabOk Tryd.prog 159 c159 [.cell 2 125 (some 24)] 1 = true := by kernel_rfl
-- joinery/env.After
def c143 : C := .seq (.reg none [2, 3, 4] [⟨some 2, none, .box 125 24 (.tmp 0)⟩, ⟨some 3, none, .box 33 6 (.tmp 1)⟩, ⟨some 4, none, .new 125 [.nilIface, .nilIface, .nilIface, .nilIface, .nilIface, .nilIface, .nilIface, .nilIface, .nilIface, .nilIface, .nilIface, .nilIface, .nilIface, .nilIface, .nilIface, .nilIface, .nilIface, .nilIface, .nilIface, .nilIface, .nilIface, .nilIface, .nilIface, .nilIface]⟩]) (.seq (.reg none [2, 3, 4] [⟨some 5, none, .ld (some 24) (.tmp 2)⟩, ⟨some 6, none, .call 159 [.tmp 5]⟩, ⟨none, none, .st 24 (.tmp 2) (.tmp 6)⟩]) (.seq (.seq (.reg none [2, 3, 4, 21] [⟨some 7, none, .ld (some 6) (.tmp 3)⟩, ⟨some 8, none, .call 125 [.tmp 7]⟩, ⟨some 9, none, .un .not (.tmp 8)⟩, ⟨some 10, none, .mv (.tmp 9)⟩, ⟨some 11, some (10, false), .fa 1 (.tmp 3)⟩, ⟨some 12, some (10, false), .ld none (.tmp 11)⟩, ⟨some 13, some (10, false), .call 59 [.tmp 12]⟩, ⟨some 14, some (10, false), .un .not (.tmp 13)⟩, ⟨some 15, none, .pick (.tmp 10) (.const (.bool true)) (.tmp 14)⟩, ⟨some 16, none, .mv (.tmp 15)⟩, ⟨some 17, some (16, false), .fa 2 (.tmp 3)⟩, ⟨some 18, some (16, false), .ld none (.tmp 17)⟩, ⟨some 19, some (16, false), .call 59 [.tmp 18]⟩, ⟨some 20, some (16, false), .un .not (.tmp 19)⟩, ⟨some 21, none, .pick (.tmp 16) (.const (.bool true)) (.tmp 20)⟩]) (.cond (.tmp 21) (.seq (.reg none [4] [⟨some 22, none, .ld (some 24) (.tmp 2)⟩, ⟨none, none, .st 24 (.tmp 4) (.tmp 22)⟩]) (.ret)) (.skip))) (.seq (.seq (.reg none [2, 3, 4, 24] [⟨some 23, none, .fa 0 (.tmp 3)⟩, ⟨some 24, none, .ld none (.tmp 23)⟩]) (.block 0 (.seq (.reg none [2, 3, 4, 24, 25] [⟨some 26, none, .bin .eql (.tmp 24) (.const (.int .i64 1))⟩, ⟨some 25, none, .mv (.tmp 26)⟩]) (.cond (.tmp 25) (.reg none [2, 4] [⟨some 27, none, .fa 1 (.tmp 3)⟩, ⟨some 28, none, .ld none (.tmp 27)⟩, ⟨some 29, none, .fa 4 (.tmp 3)⟩, ⟨some 30, none, .ld none (.tmp 29)⟩, ⟨some 31, none, .bld 245 [.int .i64 0] [(0, 0, 1, .tmp 30)]⟩, ⟨some 32, none, .ifc 245 (.tmp 31)⟩, ⟨some 33, none, .iaa 24 1 (.tmp 2) (.tmp 28)⟩, ⟨none, none, .st 1 (.tmp 33) (.tmp 32)⟩]) (.seq (.reg none [2, 3, 4, 24, 34] [⟨some 35, none, .bin .eql (.tmp 24) (.const (.int .i64 2))⟩, ⟨some 34, none, .mv (.tmp 35)⟩]) (.cond (.tmp 34) (.reg (some [[], [], [0, 1], [0, 1], [0, 1], [0, 1], [], []]) [2, 4] [⟨some 36, none, .fa 1 (.tmp 3)⟩, ⟨some 37, none, .ld none (.tmp 36)⟩, ⟨some 38, none, .fa 2 (.tmp 3)⟩, ⟨some 39, none, .ld none (.tmp 38)⟩, ⟨some 40, none, .iaa 24 1 (.tmp 2) (.tmp 39)⟩, ⟨some 41, none, .ld none (.tmp 40)⟩, ⟨some 42, none, .iaa 24 1 (.tmp 2) (.tmp 37)⟩, ⟨none, none, .st 1 (.tmp 42) (.tmp 41)⟩]) (.seq (.reg none [2, 3, 4, 43] [⟨some 44, none, .bin .eql (.tmp 24) (.const (.int .i64 3))⟩, ⟨some 43, none, .mv (.tmp 44)⟩]) (.cond (.tmp 43) (.reg (some [[], [], [0, 1], [0, 1], [0, 1, 2, 3], [0, 1, 2, 3], [0, 1, 2, 3], [0, 1, 2, 3], [0, 1, 2, 3, 4, 5, 6, 7], [0, 1, 2, 3, 4, 5, 6, 7], [0, 1, 2, 3, 4, 5, 6, 7], [0, 1, 2, 3, 4, 5, 6, 7], [2, 3], [2, 3], [], []]) [2, 4] [⟨some 45, none, .fa 1 (.tmp 3)⟩, ⟨some 46, none, .ld none (.tmp 45)⟩, ⟨some 47, none, .fa 2 (.tmp 3)⟩, ⟨some 48, none, .ld none (.tmp 47)⟩, ⟨some 49, none, .fa 2 (.tmp 3)⟩, ⟨some 50, none, .ld none (.tmp 49)⟩, ⟨some 51, none, .iaa 24 1 (.tmp 2) (.tmp 50)⟩, ⟨some 52, none, .ld none (.tmp 51)⟩, ⟨some 53, none, .fa 1 (.tmp 3)⟩, ⟨some 54, none, .ld none (.tmp 53)⟩, ⟨some 55, none, .iaa 24 1 (.tmp 2) (.tmp 54)⟩, ⟨some 56, none, .ld none (.tmp 55)⟩, ⟨some 57, none, .iaa 24 1 (.tmp 2) (.tmp 46)⟩, ⟨none, none, .st 1 (.tmp 57) (.tmp 52)⟩, ⟨some 58, none, .iaa 24 1 (.tmp 2) (.tmp 48)⟩, ⟨none, none, .st 1 (.tmp 58) (.tmp 56)⟩]) (.skip))))))))) (.seq (.reg none [4] [⟨some 59, none, .ld (some 24) (.tmp 2)⟩, ⟨none, none, .st 24 (.tmp 4) (.tmp 59)⟩]) (.ret)))))
theorem ok143 : tabOk Tryd.prog 143 c143 [.cell 4 125 (some 24)] 2 = true := by kernel_rfl
def soV : So → Value
  | .was l => .iface 248 (.agg [i64 l].toArray)
  | .is n => .iface 245 (.agg [i64 n].toArray)
def tabC (T : List So) : List Value := T.map soV
def tabV (T : List So) : V := .agg (vals (tabC T))
theorem rowSet1 {l : List Value} {i o : Nat} (ho : o = i) (hi : i < l.length) (x : Value) : List.take o (vals l) ++ [V.val x] ++ List.drop (o + 1) (vals l) = vals (l.set i x) := by
  subst ho
  rw [List.set_eq_take_append_cons_drop, if_pos hi]
  simp [vals, List.map_take, List.map_drop]
theorem rowAt1 {l : List Value} {i o : Nat} (ho : o = i) {x : Value} (hx : l[i]? = some x) : (vals l)[o]? = some (.val x) := by subst ho; simp [vals, hx]
def newP (i : Nat) : List Value := (List.range i).map (fun (j : Nat) => soV (.was (j : Int))) ++ List.replicate (24 - i) .nilIface
theorem newP_len {i : Nat} (h : i ≤ 24) : (newP i).length = 24 := by simp [newP]; omega
theorem newP_set {i : Nat} (h : i < 24) : (newP i).set i (soV (.was (i : Int))) = newP (i + 1) := by
  have hl : ((List.range i).map (fun (j : Nat) => soV (.was (j : Int)))).length = i := by simp
  unfold newP
  rw [List.set_append_right _ _ (by omega), hl, Nat.sub_self, show 24 - i = (24 - (i + 1)) + 1 by omega, List.replicate_succ, List.range_succ, List.map_append, List.append_assoc]
  rfl
theorem fn141 : FnOK Tryd.prog gidD 141 2 [] (hl []) (tabV newT) (hl []) 2 := by
  refine FnOK.of ok141 (Nat.le_refl _) (Nat.le_refl _) fun M => ?_
  conv => whnf
  refine LoopS.ren (F2 := [(2, .row 125 (List.replicate 24 .nilIface)), (3, .row 125 (newP 0))]) (fr2 := [(0, .ptr 2 0), (1, .ptr 3 0), (3, vi (0 : Nat))]) (n2 := 4) [.old 0, .old 1, .old 2, .old 3] ?_ rfl (by decide) ⟨rfl, rfl, rfl, trivial⟩ ⟨⟨_, rfl, rfl⟩, ⟨_, rfl, rfl⟩, trivial⟩
  refine LoopS.ind (S := Nat) (fun i => [(0, .ptr 2 0), (1, .ptr 3 0), (3, vi i)]) (fun i => hl [(2, .row 125 (List.replicate 24 .nilIface)), (3, .row 125 (newP i))]) 4 (fun i => i ≤ 24) (fun i => 24 - i) ?_ 0 (Nat.zero_le _)
  intro i hi ih
  refine LoopS.round rfl ?_
  conv => whnf
  have hl := newP_len hi
  have hlv : (vals (newP i)).length = 24 := by rw [vals_length, hl]
  by_cases hlt : i < 24
  · refine brT_true (decide_eq_true (by omega)) ?_
    conv => whnf
    repeat (refine cndP_intro (by first | omega | exact rfl) ?_; conv => whnf)
    refine LoopS.ren [.old 0, .old 1, .old 2, .old 3] (ih (i + 1) hlt (by omega)) rfl (by decide) ⟨rfl, rfl, congrArg (fun z => some (vi z)) (w64i hlt (by omega)).symm, trivial⟩ ⟨⟨_, rfl, rfl⟩, ⟨_, rfl, ?_⟩, trivial⟩
    rw [← newP_set hlt]
    exact rowSet1 (by omega) (by omega) _
  · refine brT_false (decide_eq_false (by omega)) ?_
    obtain rfl : i = 24 := by omega
    conv => whnf
    exact retX [.old 0, .old 1] (.inl rfl) rfl rfl rfl trivial
theorem fn179 (s : So) (h : s.ok = true) : FnOK Tryd.prog gidD 179 2 [.val (soV s)] (hl []) (vb true) (hl []) 2 := by
  refine FnOK.of ok179 (Nat.le_refl _) (Nat.le_refl _) fun M => ?_
  cases s with
  | was l =>
    have hr := fn59 l
    rw [show isLoc l = true from h] at hr
    conv => whnf
    refine callX hr [.old 0, .old 1] rfl rfl rfl rfl trivial ?_
    conv => whnf
    exact retX [.old 0, .old 1] (.inl rfl) rfl rfl rfl trivial
  | is n =>
    conv => whnf
    exact retX [.old 0, .old 1] (.inl rfl) rfl rfl rfl trivial
theorem tabC_at {T : List So} {l : Int} (h : T.length = 24) (h0 : 0 ≤ l) (h1 : l < 24) : (tabC T)[l.toNat]? = some (soV (getT T l)) := by
  have := (getT_mem h h0 h1).2
  simp [tabC, this]
theorem tabFlat (T : List So) : (vals (tabC T)).all V.flat = true := by
  simp only [vals, tabC, List.all_map, List.all_eq_true]
  intro s _
  cases s <;> rfl
theorem rnVv (l : List Src) : ∀ (xs : List Value), rnL l (vals xs) = some (vals xs)
  | [] => rfl
  | x :: xs => by
    show rnL l (V.val x :: vals xs) = _
    rw [rnL]
    simp only [rnV, rnVv l xs]
    rfl
theorem rnTab (l : List Src) (xs : List Value) : rnV l (.agg (vals xs)) = some (.agg (vals xs)) := by rw [rnV, rnVv]
theorem fn174 (T : List So) (h : Okt T) : FnOK Tryd.prog gidD 174 2 [tabV T] (hl []) (vb true) (hl []) 2 := by
  refine FnOK.of ok174 (Nat.le_refl _) (Nat.le_refl _) fun M => ?_
  have hL := h.len
  have hlen : (vals (tabC T)).length = 24 := by rw [vals_length, tabC, List.length_map, hL]
  unfold tabV
  conv => whnf
  repeat (refine cndP_intro (by first | exact hlen | exact tabFlat T | (show _ ≤ (vals (tabC T)).length; omega)) ?_; conv => whnf)
  refine LoopS.ren (F2 := []) (fr2 := [(5, .agg (vals (tabC T))), (6, vi (0 : Nat))]) (n2 := 2) [.old 0, .old 1] ?_ rfl (by decide) ⟨?_, rfl, trivial⟩ trivial
  rotate_left
  · show _ = some (V.agg (List.take 24 (List.drop 0 (vals (tabC T)))))
    rw [List.drop_zero, List.take_of_length_le (by omega)]
    exact rnTab _ _
  refine LoopS.ind (S := Nat) (fun i => [(5, .agg (vals (tabC T))), (6, vi i)]) (fun i => hl []) 2 (fun i => i ≤ 24) (fun i => 24 - i) ?_ 0 (Nat.zero_le _)
  intro i hi ih
  refine LoopS.round rfl ?_
  conv => whnf
  by_cases hlt : i < 24
  · refine brT_true (decide_eq_true (by omega)) ?_
    have hx := tabC_at (l := (i : Int)) hL (by omega) (by omega)
    have hm := fn179 (getT T i) (h.all _ (getT_mem hL (by omega) (by omega)).1)
    conv => whnf
    repeat (refine cndP_intro (by first | omega | exact rfl) ?_; conv => whnf)
    rw [rowAt1 (l := tabC T) (by omega) hx]
    conv => whnf
    refine callX hm [.old 0, .old 1] rfl rfl rfl rfl trivial ?_
    conv => whnf
    exact LoopS.ren [.old 0, .old 1] (ih (i + 1) hlt (by omega)) rfl (by decide) ⟨rnTab _ _, congrArg (fun z => some (vi z)) (w64i hlt (by omega)).symm, trivial⟩ trivial
  · refine brT_false (decide_eq_false (by omega)) ?_
    conv => whnf
    exact retX [.old 0, .old 1] (.inl rfl) rfl rfl rfl trivial
theorem tabC_len {T : List So} (h : T.length = 24) : (tabC T).length = 24 := by rw [tabC, List.length_map, h]
theorem tabC_set (T : List So) (i : Nat) (s : So) : tabC (T.set i s) = (tabC T).set i (soV s) := by simp [tabC, List.map_set]
theorem fn159 (T : List So) (h : Okt T) : FnOK Tryd.prog gidD 159 2 [tabV T] (hl []) (tabV T) (hl []) 2 := by
  refine FnOK.of ok159 (Nat.le_refl _) (Nat.le_refl _) fun M => ?_
  have hG := fn174 T h
  have hf := tabFlat T
  unfold tabV at hG ⊢
  obtain ⟨v0, v1, v2, v3, v4, v5, v6, v7, v8, v9, v10, v11, v12, v13, v14, v15, v16, v17, v18, v19, v20, v21, v22, v23, hTe⟩ := list24 (tabC_len h.len)
  rw [hTe] at hG hf ⊢
  conv => whnf
  refine cndP_intro hf ?_
  conv => whnf
  refine callX hG [.old 0, .old 1] rfl rfl rfl rfl trivial ?_
  conv => whnf
  repeat (refine cndP_intro (by first | exact hf | exact rfl) ?_; conv => whnf)
  exact retX [.old 0, .old 1] (.inl rfl) rfl rfl rfl trivial
theorem soFlat (s : So) : (V.val (soV s)).cells.all V.flat = true := by cases s <;> rfl
theorem soCells (s : So) : (V.val (soV s)).cells = [V.val (soV s)] := by cases s <;> rfl
theorem soLen (s : So) : (V.val (soV s)).cells.length = 1 := by cases s <;> rfl
theorem tabLook {T : List So} {vs : List Value} (hT : tabC T = vs) (hl : T.length = 24) {l : Int} (h0 : 0 ≤ l) (h1 : l < 24) {o : Nat} (ho : o = l.toNat) : (vals vs)[o]? = some (.val (soV (getT T l))) := by
  subst hT ho
  exact rowAt1 rfl (tabC_at hl h0 h1)
theorem fn143 (T : List So) (x : Ins) (h : Okt T) (hd : 0 ≤ x.d ∧ x.d < 24) (ha : 0 ≤ x.a ∧ x.a < 24) : FnOK Tryd.prog gidD 143 2 [tabV T, x.v] (hl []) (tabV (afterT T x)) (hl []) 2 := by
  refine FnOK.of ok143 (Nat.le_refl _) (Nat.le_refl _) fun M => ?_
  have hG := fn159 T h
  have hf := tabFlat T
  have hrd := fn59 x.d
  have hra := fn59 x.a
  rw [show isLoc x.d = true by simp [isLoc, hd]] at hrd
  rw [show isLoc x.a = true by simp [isLoc, ha]] at hra
  have hM := fn125 x
  have hok := after_ok (x := x) h hd ha
  have hA : afterT T x = if x.op = 1 then T.set x.d.toNat (.is x.n) else if x.op = 2 then T.set x.d.toNat (getT T x.a) else if x.op = 3 then (T.set x.d.toNat (getT T x.a)).set x.a.toNat (getT T x.d) else T := rfl
  obtain ⟨op, d, a, b, m, to⟩ := x
  simp only at hd ha hrd hra
  have hl := tabC_len h.len
  unfold tabV at hG ⊢
  obtain ⟨v0, v1, v2, v3, v4, v5, v6, v7, v8, v9, v10, v11, v12, v13, v14, v15, v16, v17, v18, v19, v20, v21, v22, v23, hTe⟩ := list24 hl
  rw [show (V.agg (vals (tabC T))) = V.agg (vals [v0, v1, v2, v3, v4, v5, v6, v7, v8, v9, v10, v11, v12, v13, v14, v15, v16, v17, v18, v19, v20, v21, v22, v23]) by rw [hTe]]
  rw [hTe] at hG hf
  conv => whnf
  refine cndP_intro hf ?_
  conv => whnf
  refine callX hG [.old 0, .old 1] rfl rfl rfl rfl trivial ?_
  conv => whnf
  repeat (refine cndP_intro (by first | exact hf | exact rfl) ?_; conv => whnf)
  rw [show List.take 0 (V.agg (vals [v0, v1, v2, v3, v4, v5, v6, v7, v8, v9, v10, v11, v12, v13, v14, v15, v16, v17, v18, v19, v20, v21, v22, v23])).cells ++ (V.agg [V.val v0, V.val v1, V.val v2, V.val v3, V.val v4, V.val v5, V.val v6, V.val v7, V.val v8, V.val v9, V.val v10, V.val v11, V.val v12, V.val v13, V.val v14, V.val v15, V.val v16, V.val v17, V.val v18, V.val v19, V.val v20, V.val v21, V.val v22, V.val v23]).cells ++ List.drop (0 + 24) (V.agg (vals [v0, v1, v2, v3, v4, v5, v6, v7, v8, v9, v10, v11, v12, v13, v14, v15, v16, v17, v18, v19, v20, v21, v22, v23])).cells = vals [v0, v1, v2, v3, v4, v5, v6, v7, v8, v9, v10, v11, v12, v13, v14, v15, v16, v17, v18, v19, v20, v21, v22, v23] from rfl]
  refine callX hM [.old 0, .old 1] rfl rfl rfl rfl trivial ?_
  by_cases hm : op = 1 ∨ op = 2 ∨ op = 3
  · rw [show movesI ⟨op, d, a, b, m, to⟩ = true from decide_eq_true (by show op = 1 ∨ op = 2 ∨ op = 3 ∨ op = 16; omega)]
    conv => whnf
    refine callX hrd [.old 0, .old 1] rfl rfl rfl rfl trivial ?_
    conv => whnf
    refine callX hra [.old 0, .old 1] rfl rfl rfl rfl trivial ?_
    conv => whnf
    rcases hm with rfl | rfl | rfl
    · conv => whnf
      repeat (refine cndP_intro (by first | exact hd.1 | exact hd.2 | exact ha.1 | exact ha.2 | exact soFlat _ | exact soLen _ | exact rfl | (show _ ≤ 24; show 0 + d.toNat * 1 + 1 ≤ 24; omega)) ?_; conv => whnf)
      obtain ⟨w0, w1, w2, w3, w4, w5, w6, w7, w8, w9, w10, w11, w12, w13, w14, w15, w16, w17, w18, w19, w20, w21, w22, w23, hWe⟩ := list24 (tabC_len hok.len)
      have hfw := tabFlat (afterT T ⟨1, d, a, b, m, to⟩)
      rw [hWe] at hfw
      have hS : List.take (0 + d.toNat * 1) (vals [v0, v1, v2, v3, v4, v5, v6, v7, v8, v9, v10, v11, v12, v13, v14, v15, v16, v17, v18, v19, v20, v21, v22, v23]) ++ (V.val (Value.iface 245 (Value.agg #[i64 m]))).cells ++ List.drop (0 + d.toNat * 1 + 1) (vals [v0, v1, v2, v3, v4, v5, v6, v7, v8, v9, v10, v11, v12, v13, v14, v15, v16, v17, v18, v19, v20, v21, v22, v23]) = vals (tabC (afterT T ⟨1, d, a, b, m, to⟩)) := by
        rw [hA, if_pos rfl, tabC_set, hTe]; exact rowSet1 (l := [v0, v1, v2, v3, v4, v5, v6, v7, v8, v9, v10, v11, v12, v13, v14, v15, v16, v17, v18, v19, v20, v21, v22, v23]) (i := d.toNat) (o := 0 + d.toNat * 1) (by omega) (by show d.toNat < 24; omega) _
      rw [hS, hWe]
      conv => whnf
      repeat (refine cndP_intro (by first | exact hfw | exact rfl) ?_; conv => whnf)
      exact retX [.old 0, .old 1] (.inl rfl) rfl rfl rfl trivial
    · conv => whnf
      repeat (refine cndP_intro (by first | exact hd.1 | exact hd.2 | exact ha.1 | exact ha.2 | exact soFlat _ | exact soLen _ | exact rfl | (show _ ≤ 24; show 0 + d.toNat * 1 + 1 ≤ 24; omega)) ?_; conv => whnf)
      rw [show (vals [v0, v1, v2, v3, v4, v5, v6, v7, v8, v9, v10, v11, v12, v13, v14, v15, v16, v17, v18, v19, v20, v21, v22, v23])[0 + a.toNat * 1]? = some (.val (soV (getT T a))) from tabLook hTe h.len ha.1 ha.2 (by omega)]
      conv => whnf
      repeat (refine cndP_intro (by first | exact hd.1 | exact hd.2 | exact ha.1 | exact ha.2 | exact soFlat _ | exact soLen _ | exact rfl | (show _ ≤ 24; show 0 + d.toNat * 1 + 1 ≤ 24; omega)) ?_; conv => whnf)
      obtain ⟨w0, w1, w2, w3, w4, w5, w6, w7, w8, w9, w10, w11, w12, w13, w14, w15, w16, w17, w18, w19, w20, w21, w22, w23, hWe⟩ := list24 (tabC_len hok.len)
      have hfw := tabFlat (afterT T ⟨2, d, a, b, m, to⟩)
      rw [hWe] at hfw
      have hS : List.take (0 + d.toNat * 1) (vals [v0, v1, v2, v3, v4, v5, v6, v7, v8, v9, v10, v11, v12, v13, v14, v15, v16, v17, v18, v19, v20, v21, v22, v23]) ++ (V.val (soV (getT T a))).cells ++ List.drop (0 + d.toNat * 1 + 1) (vals [v0, v1, v2, v3, v4, v5, v6, v7, v8, v9, v10, v11, v12, v13, v14, v15, v16, v17, v18, v19, v20, v21, v22, v23]) = vals (tabC (afterT T ⟨2, d, a, b, m, to⟩)) := by
        rw [hA, if_neg (by show ¬ (2 : Int) = 1; decide), if_pos rfl, tabC_set, hTe, soCells]; exact rowSet1 (l := [v0, v1, v2, v3, v4, v5, v6, v7, v8, v9, v10, v11, v12, v13, v14, v15, v16, v17, v18, v19, v20, v21, v22, v23]) (i := d.toNat) (o := 0 + d.toNat * 1) (by omega) (by show d.toNat < 24; omega) _
      rw [hS, hWe]
      conv => whnf
      repeat (refine cndP_intro (by first | exact hfw | exact rfl) ?_; conv => whnf)
      exact retX [.old 0, .old 1] (.inl rfl) rfl rfl rfl trivial
    · conv => whnf
      repeat (refine cndP_intro (by first | exact hd.1 | exact hd.2 | exact ha.1 | exact ha.2 | exact soFlat _ | exact soLen _ | exact rfl | (show _ ≤ 24; show 0 + d.toNat * 1 + 1 ≤ 24; omega)) ?_; conv => whnf)
      rw [show (vals [v0, v1, v2, v3, v4, v5, v6, v7, v8, v9, v10, v11, v12, v13, v14, v15, v16, v17, v18, v19, v20, v21, v22, v23])[0 + a.toNat * 1]? = some (.val (soV (getT T a))) from tabLook hTe h.len ha.1 ha.2 (by omega)]
      conv => whnf
      repeat (refine cndP_intro (by first | exact hd.1 | exact hd.2 | exact ha.1 | exact ha.2 | exact soFlat _ | exact soLen _ | exact rfl | (show _ ≤ 24; show 0 + d.toNat * 1 + 1 ≤ 24; omega)) ?_; conv => whnf)
      rw [show (vals [v0, v1, v2, v3, v4, v5, v6, v7, v8, v9, v10, v11, v12, v13, v14, v15, v16, v17, v18, v19, v20, v21, v22, v23])[0 + d.toNat * 1]? = some (.val (soV (getT T d))) from tabLook hTe h.len hd.1 hd.2 (by omega)]
      conv => whnf
      repeat (refine cndP_intro (by first | exact hd.1 | exact hd.2 | exact ha.1 | exact ha.2 | exact soFlat _ | exact soLen _ | exact rfl | (show _ ≤ 24; show 0 + d.toNat * 1 + 1 ≤ 24; omega)) ?_; conv => whnf)
      obtain ⟨w0, w1, w2, w3, w4, w5, w6, w7, w8, w9, w10, w11, w12, w13, w14, w15, w16, w17, w18, w19, w20, w21, w22, w23, hWe⟩ := list24 (tabC_len hok.len)
      have hfw := tabFlat (afterT T ⟨3, d, a, b, m, to⟩)
      rw [hWe] at hfw
      have hS : List.take (0 + d.toNat * 1) (vals [v0, v1, v2, v3, v4, v5, v6, v7, v8, v9, v10, v11, v12, v13, v14, v15, v16, v17, v18, v19, v20, v21, v22, v23]) ++ (V.val (soV (getT T a))).cells ++ List.drop (0 + d.toNat * 1 + 1) (vals [v0, v1, v2, v3, v4, v5, v6, v7, v8, v9, v10, v11, v12, v13, v14, v15, v16, v17, v18, v19, v20, v21, v22, v23]) = vals (tabC (T.set d.toNat (getT T a))) := by
        rw [tabC_set, hTe, soCells]; exact rowSet1 (l := [v0, v1, v2, v3, v4, v5, v6, v7, v8, v9, v10, v11, v12, v13, v14, v15, v16, v17, v18, v19, v20, v21, v22, v23]) (i := d.toNat) (o := 0 + d.toNat * 1) (by omega) (by show d.toNat < 24; omega) _
      have hUl : (tabC (T.set d.toNat (getT T a))).length = 24 := by rw [tabC_set, List.length_set, hl]
      have hS2 : List.take (0 + a.toNat * 1) (vals (tabC (T.set d.toNat (getT T a)))) ++ (V.val (soV (getT T d))).cells ++ List.drop (0 + a.toNat * 1 + 1) (vals (tabC (T.set d.toNat (getT T a)))) = vals (tabC (afterT T ⟨3, d, a, b, m, to⟩)) := by
        rw [hA, if_neg (by show ¬ (3 : Int) = 1; decide), if_neg (by show ¬ (3 : Int) = 2; decide), if_pos rfl, tabC_set (T.set d.toNat (getT T a)), soCells]; exact rowSet1 (l := tabC (T.set d.toNat (getT T a))) (i := a.toNat) (o := 0 + a.toNat * 1) (by omega) (by rw [hUl]; omega) _
      rw [hS]
      repeat (refine cndP_intro (by first | exact soFlat _ | exact soLen _ | exact ha.1 | exact ha.2) ?_; conv => whnf)
      refine cndP_intro (by show 0 + a.toNat * 1 + 1 ≤ (vals (tabC (T.set d.toNat (getT T a)))).length; rw [vals_length, hUl]; omega) ?_
      conv => whnf
      repeat (refine cndP_intro (by first | exact soFlat _ | exact soLen _ | exact ha.1 | exact ha.2 | exact rfl) ?_; conv => whnf)
      rw [hS2, hWe]
      conv => whnf
      repeat (refine cndP_intro (by first | exact hfw | exact rfl) ?_; conv => whnf)
      exact retX [.old 0, .old 1] (.inl rfl) rfl rfl rfl trivial
  · have hAn : afterT T ⟨op, d, a, b, m, to⟩ = T := by rw [hA, if_neg (by show ¬ op = 1; omega), if_neg (by show ¬ op = 2; omega), if_neg (by show ¬ op = 3; omega)]
    rw [hAn, hTe]
    cases hmv : movesI ⟨op, d, a, b, m, to⟩
    · conv => whnf
      repeat (refine cndP_intro (by first | exact hf | exact rfl) ?_; conv => whnf)
      exact retX [.old 0, .old 1] (.inl rfl) rfl rfl rfl trivial
    · conv => whnf
      refine callX hrd [.old 0, .old 1] rfl rfl rfl rfl trivial ?_
      conv => whnf
      refine callX hra [.old 0, .old 1] rfl rfl rfl rfl trivial ?_
      conv => whnf
      refine brT_false (decide_eq_false (by show ¬ op = 1; omega)) ?_
      conv => whnf
      refine brT_false (decide_eq_false (by show ¬ op = 2; omega)) ?_
      conv => whnf
      refine brT_false (decide_eq_false (by show ¬ op = 3; omega)) ?_
      conv => whnf
      repeat (refine cndP_intro (by first | exact hf | exact rfl) ?_; conv => whnf)
      exact retX [.old 0, .old 1] (.inl rfl) rfl rfl rfl trivial
end Go.Abs
