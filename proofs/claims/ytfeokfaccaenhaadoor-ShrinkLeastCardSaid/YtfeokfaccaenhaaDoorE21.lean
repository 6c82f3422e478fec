/- Contracts: heaps of words. -/
import Derived.Test.YtfeokfaccaenhaaDoorM0
import Derived.Test.YtfeokfaccaenhaaDoorE1
set_option linter.unusedVariables false
set_option linter.unusedSimpArgs false
namespace Go.Abs
open Go.Proofs
set_option maxRecDepth 100000
set_option maxHeartbeats 1000000
def nums (l : List Int) : List Value := l.map i64
theorem nums_len (l : List Int) : (nums l).length = l.length := by simp [nums]
theorem vnums_len (l : List Int) : (vals (nums l)).length = l.length := by simp [nums]
theorem nums_get {l : List Int} {i : Nat} {z : Int} (h : l[i]? = some z) : (nums l)[i]? = some (i64 z) := by simp [nums, h]
theorem numAt {h : List Int} {i : Nat} {z : Int} (hz : h[i]? = some z) : (nums h)[0 + Int.toNat (i : Int) * 1]? = some (i64 z) := by
  rw [Nat.zero_add, Nat.mul_one, Int.toNat_natCast]; exact nums_get hz
theorem numAtV {h : List Int} {i : Nat} {z : Int} (hz : h[i]? = some z) : (vals (nums h))[0 + Int.toNat (i : Int) * 1]? = some (vi z) := by
  rw [Nat.zero_add, Nat.mul_one, Int.toNat_natCast]; simp [vals, nums, hz]
theorem numFlat (l : List Int) : (vals (nums l)).all V.flat = true := by
  simp [vals, nums, V.flat, i64]
  try (intro x _; rfl)
theorem numSet {h : List Int} {i : Nat} (hi : i < h.length) (z : Int) : List.take (0 + Int.toNat (i : Int) * 1) (vals (nums h)) ++ [vi z] ++ List.drop (0 + Int.toNat (i : Int) * 1 + 1) (vals (nums h)) = vals (nums (h.set i z)) := by
  rw [Nat.zero_add, Nat.mul_one, Int.toNat_natCast, List.set_eq_take_append_cons_drop, if_pos hi]
  simp [vals, nums, List.map_take, List.map_drop]
theorem subRo' {c : List Value} {o n : Nat} (ho : o = 0) (hn : n = c.length) : (Blk.ro c).sub o n = vals c := by subst ho hn; exact subRo c
theorem subOwn' {e : TypeId} {c : List Value} {o n : Nat} (ho : o = 0) (hn : n = c.length) : (Blk.own e (vals c)).sub o n = vals c := by subst ho hn; exact subAll e c
theorem toNat_nonneg {z : Int} (h : 0 ≤ z) : ∃ n : Nat, z = n := ⟨z.toNat, by omega⟩
-- joinery/heap.Right
def c155 : C := .seq (.reg none [0] [⟨some 2, none, .mv (.const (.bool false))⟩]) (.seq (.reg none [2] [⟨some 3, none, .mv (.tmp 0)⟩, ⟨some 4, none, .len (.tmp 3)⟩, ⟨some 5, none, .bin .leq (.tmp 4) (.const (.int .i64 16))⟩, ⟨some 2, none, .mv (.tmp 5)⟩]) (.ret))
theorem ok155 : tabOk Tryd.prog 155 c155 [.tmp 2] 1 = true := by kernel_rfl
-- joinery/heap.in
def c177 : C := .seq (.reg none [0, 1] [⟨some 4, none, .mv (.const (.bool false))⟩]) (.seq (.reg none [4] [⟨some 5, none, .mv (.tmp 0)⟩, ⟨some 6, none, .call 155 [.tmp 5]⟩, ⟨some 7, none, .mv (.tmp 6)⟩, ⟨some 8, some (7, true), .mv (.tmp 1)⟩, ⟨some 9, some (7, true), .bin .geq (.tmp 8) (.const (.int .i64 0))⟩, ⟨some 10, none, .pick (.tmp 7) (.tmp 9) (.const (.bool false))⟩, ⟨some 11, none, .mv (.tmp 10)⟩, ⟨some 12, some (11, true), .mv (.tmp 1)⟩, ⟨some 13, some (11, true), .mv (.tmp 0)⟩, ⟨some 14, some (11, true), .len (.tmp 13)⟩, ⟨some 15, some (11, true), .bin .lss (.tmp 12) (.tmp 14)⟩, ⟨some 16, none, .pick (.tmp 11) (.tmp 15) (.const (.bool false))⟩, ⟨some 4, none, .mv (.tmp 16)⟩]) (.ret))
theorem ok177 : tabOk Tryd.prog 177 c177 [.tmp 4] 2 = true := by kernel_rfl
-- joinery/heap.Load
def c169 : C := .seq (.reg none [0, 1] [⟨some 4, none, .mv (.const (.int .i64 0))⟩, ⟨some 5, none, .mv (.const (.int .i64 0))⟩]) (.seq (.seq (.reg none [0, 1, 9] [⟨some 6, none, .mv (.tmp 0)⟩, ⟨some 7, none, .mv (.tmp 1)⟩, ⟨some 8, none, .call 177 [.tmp 6, .tmp 7]⟩, ⟨some 9, none, .un .not (.tmp 8)⟩]) (.cond (.tmp 9) (.seq (.reg none [4, 5] [⟨some 4, none, .mv (.const (.int .i64 0))⟩, ⟨some 5, none, .mv (.const (.int .i64 4))⟩]) (.ret)) (.skip))) (.seq (.reg none [4, 5] [⟨some 10, none, .mv (.tmp 0)⟩, ⟨some 11, none, .mv (.tmp 1)⟩, ⟨some 12, none, .ia 1 (.tmp 10) (.tmp 11)⟩, ⟨some 13, none, .ld none (.tmp 12)⟩, ⟨some 4, none, .mv (.tmp 13)⟩, ⟨some 5, none, .mv (.const (.int .i64 0))⟩]) (.ret)))
theorem ok169 : tabOk Tryd.prog 169 c169 [.tmp 4, .tmp 5] 2 = true := by kernel_rfl
-- joinery/heap.Store
def c170 : C := .seq (.reg none [0, 1, 2] [⟨some 6, none, .mv (.const (.slice none 0 0))⟩, ⟨some 7, none, .mv (.const (.int .i64 0))⟩]) (.seq (.seq (.reg none [0, 1, 2, 12] [⟨some 9, none, .mv (.tmp 0)⟩, ⟨some 10, none, .mv (.tmp 1)⟩, ⟨some 11, none, .call 177 [.tmp 9, .tmp 10]⟩, ⟨some 12, none, .un .not (.tmp 11)⟩]) (.cond (.tmp 12) (.seq (.reg none [6, 7] [⟨some 6, none, .mv (.const (.slice none 0 0))⟩, ⟨some 7, none, .mv (.const (.int .i64 4))⟩]) (.ret)) (.skip))) (.seq (.reg none [0, 1, 2, 8] [⟨some 13, none, .mv (.tmp 0)⟩, ⟨some 14, none, .len (.tmp 13)⟩, ⟨some 15, none, .msl 2 [.int .i64 0] (.tmp 14) (.tmp 14)⟩, ⟨some 8, none, .mv (.tmp 15)⟩]) (.seq (.reg none [1, 2, 8] [⟨some 16, none, .mv (.tmp 8)⟩, ⟨some 17, none, .mv (.tmp 0)⟩, ⟨some 18, none, .cpy 1 (.tmp 16) (.tmp 17)⟩]) (.seq (.reg none [8] [⟨some 19, none, .mv (.tmp 8)⟩, ⟨some 20, none, .mv (.tmp 1)⟩, ⟨some 21, none, .mv (.tmp 2)⟩, ⟨some 22, none, .ia 1 (.tmp 19) (.tmp 20)⟩, ⟨none, none, .st 1 (.tmp 22) (.tmp 21)⟩]) (.seq (.reg none [6, 7] [⟨some 23, none, .mv (.tmp 8)⟩, ⟨some 6, none, .mv (.tmp 23)⟩, ⟨some 7, none, .mv (.const (.int .i64 0))⟩]) (.ret))))))
theorem ok170 : tabOk Tryd.prog 170 c170 [.tmp 6, .tmp 7] 3 = true := by kernel_rfl
-- joinery/heap.Same
def c73 : C := .seq (.reg none [0, 1] [⟨some 4, none, .mv (.const (.bool false))⟩]) (.seq (.seq (.reg none [0, 1, 10] [⟨some 6, none, .mv (.tmp 0)⟩, ⟨some 7, none, .len (.tmp 6)⟩, ⟨some 8, none, .mv (.tmp 1)⟩, ⟨some 9, none, .len (.tmp 8)⟩, ⟨some 10, none, .bin .neq (.tmp 7) (.tmp 9)⟩]) (.cond (.tmp 10) (.seq (.reg none [4] [⟨some 4, none, .mv (.const (.bool false))⟩]) (.ret)) (.skip))) (.seq (.seq (.reg none [0, 1, 12, 13] [⟨some 11, none, .mv (.tmp 0)⟩, ⟨some 12, none, .len (.tmp 11)⟩, ⟨some 13, none, .mv (.const (.int .i64 0))⟩]) (.block 0 (.loop [0, 1, 12, 13] (.seq (.reg none [0, 1, 12, 13, 14] [⟨some 14, none, .bin .lss (.tmp 13) (.tmp 12)⟩]) (.seq (.cond (.tmp 14) (.skip) (.exit 0)) (.seq (.block 1 (.seq (.reg none [0, 1, 5, 12, 13] [⟨some 15, none, .mv (.tmp 13)⟩, ⟨some 5, none, .mv (.tmp 15)⟩]) (.seq (.reg (some [[], [0], [], [], [0, 1, 2, 3], [0, 1, 2, 3, 4], [0, 1, 2, 3], [0, 1, 2, 3], []]) [0, 1, 12, 13, 24] [⟨some 16, none, .mv (.tmp 0)⟩, ⟨some 17, none, .mv (.tmp 5)⟩, ⟨some 18, none, .ia 1 (.tmp 16) (.tmp 17)⟩, ⟨some 19, none, .ld none (.tmp 18)⟩, ⟨some 20, none, .mv (.tmp 1)⟩, ⟨some 21, none, .mv (.tmp 5)⟩, ⟨some 22, none, .ia 1 (.tmp 20) (.tmp 21)⟩, ⟨some 23, none, .ld none (.tmp 22)⟩, ⟨some 24, none, .bin .neq (.tmp 19) (.tmp 23)⟩]) (.cond (.tmp 24) (.seq (.reg none [4] [⟨some 4, none, .mv (.const (.bool false))⟩]) (.ret)) (.skip))))) (.reg none [0, 1, 12, 13] [⟨some 25, none, .bin .add (.tmp 13) (.const (.int .i64 1))⟩, ⟨some 13, none, .mv (.tmp 25)⟩]))))))) (.seq (.reg none [4] [⟨some 4, none, .mv (.const (.bool true))⟩]) (.ret))))
theorem ok73 : tabOk Tryd.prog 73 c73 [.tmp 4] 2 = true := by kernel_rfl
theorem fn155 (n : Nat) : FnOK Tryd.prog gidD 155 3 [.sl 2 0 n] (hl []) (vb (decide ((n : Int) ≤ 16))) (hl []) 3 := by
  refine FnOK.of ok155 (Nat.le_refl _) (Nat.le_refl _) fun M => ?_
  conv => whnf
  exact retX [.old 0, .old 1, .old 2] (.inl rfl) rfl rfl rfl trivial
theorem fn177 (h : List Int) (a : Int) (hn : h.length ≤ 16) : FnOK Tryd.prog gidD 177 3 [.sl 2 0 h.length, vi a] (hl []) (vb (inH h a)) (hl []) 3 := by
  refine FnOK.of ok177 (Nat.le_refl _) (Nat.le_refl _) fun M => ?_
  conv => whnf
  refine callX (fn155 h.length) [.old 0, .old 1, .old 2] rfl rfl rfl rfl trivial ?_
  rw [decide_eq_true (show (h.length : Int) ≤ 16 by omega)]
  conv => whnf
  repeat' ((first | refine brD_intro (fun h => ?_) (fun h => ?_) | refine brT_intro (fun h => ?_) (fun h => ?_)) <;> conv => whnf)
  all_goals exact retX [.old 0, .old 1, .old 2] (.inl rfl) rfl (congrArg (fun b => some (vb b)) (by simp_all [inH] <;> omega)) rfl trivial
theorem fn169 (h : List Int) (a : Int) (hn : h.length ≤ 16) : FnOK Tryd.prog gidD 169 3 [.sl 2 0 h.length, vi a] (hl [(2, .ro (nums h))])
    (.tup [vi (if inH h a = true then (h[a.toNat]?).getD 0 else 0), vi (if inH h a = true then 0 else 4)]) (hl []) 3 := by
  refine FnOK.of ok169 (Nat.le_refl _) (Nat.le_refl _) fun M => ?_
  conv => whnf
  refine callX (fn177 h a hn) [.old 0, .old 1, .old 2] rfl rfl rfl rfl trivial ?_
  by_cases hi : inH h a = true
  · rw [hi]
    have hb := hi
    unfold inH at hb
    simp only [Bool.and_eq_true, decide_eq_true_eq] at hb
    obtain ⟨i, rfl⟩ := toNat_nonneg hb.1
    obtain ⟨z, hz⟩ : ∃ z, h[i]? = some z := ⟨_, List.getElem?_eq_getElem (by omega)⟩
    conv => whnf
    repeat (refine cndP_intro (by omega) ?_; conv => whnf)
    rw [numAt hz]
    conv => whnf
    exact retX [.old 0, .old 1, .old 2] (.inl rfl) rfl (by rw [if_pos rfl, if_pos rfl, Int.toNat_natCast, hz]; rfl) rfl trivial
  · rw [Bool.not_eq_true] at hi
    rw [hi]
    conv => whnf
    exact retX [.old 0, .old 1, .old 2] (.inl rfl) rfl rfl rfl trivial
def storeL (h : List Int) (a v : Int) : List Int := if inH h a = true then h.set a.toNat v else []
theorem fn170 (h : List Int) (a v : Int) (hn : h.length ≤ 16) : FnOK Tryd.prog gidD 170 3 [.sl 2 0 h.length, vi a, vi v] (hl [(2, .ro (nums h))])
    (.tup [.sl 3 0 (storeL h a v).length, vi (if inH h a = true then 0 else 4)]) (hl [(3, .row 2 (nums (storeL h a v)))]) 4 := by
  refine FnOK.of ok170 (Nat.le_refl _) (by decide) fun M => ?_
  conv => whnf
  refine callX (fn177 h a hn) [.old 0, .old 1, .old 2] rfl rfl rfl rfl trivial ?_
  by_cases hi : inH h a = true
  · have hS : storeL h a v = h.set a.toNat v := if_pos hi
    rw [hS, List.length_set, hi]
    have hb := hi
    unfold inH at hb
    simp only [Bool.and_eq_true, decide_eq_true_eq] at hb
    obtain ⟨i, rfl⟩ := toNat_nonneg hb.1
    have hl1 : (List.range (Int.toNat (h.length : Int) * 1)).length = h.length := by simp
    conv => whnf
    have c1 : ∀ {g : Nat → Value}, Nat.min h.length h.length ≤ (vals ((List.range (Int.toNat (h.length : Int) * 1)).map g)).length := by intro g; simp
    have c2 : 0 + Nat.min h.length h.length ≤ (FB.ro (nums h)).blk.cellsV.length := by rw [show (FB.ro (nums h)).blk.cellsV = vals (nums h) from rfl, vnums_len]; simp
    have c3 : (FB.ro (nums h)).blk.sub 0 (Nat.min h.length h.length) = vals (nums h) := subRo' rfl (by simp [nums])
    have c4 : ((FB.ro (nums h)).blk.sub 0 (Nat.min h.length h.length)).all V.flat = true := by rw [c3]; exact numFlat h
    have c5 : 0 < Nat.min h.length h.length := by simp; omega
    have hd : ∀ {g : Nat → Value}, (vals ((List.range (h.length * [Value.int IntKind.i64 0].length)).map g)).drop (Nat.min h.length h.length) = [] := by intro g; simp
    repeat (refine cndP_intro (by first | omega | exact rfl | exact c1 | exact c2 | exact c4 | exact c5) ?_; conv => whnf)
    rw [Int.toNat_natCast h.length, c3, hd, List.append_nil]
    repeat (refine cndP_intro (by first | omega | exact rfl | (rw [vnums_len]; omega)) ?_; conv => whnf)
    exact retX [.old 0, .old 1, .old 2, .old 3] (.inl rfl) rfl rfl rfl ⟨⟨_, rfl, numSet (by omega) v⟩, trivial⟩
  · have hS : storeL h a v = [] := if_neg hi
    rw [Bool.not_eq_true] at hi
    rw [hS, hi]
    conv => whnf
    exact retX [.old 0, .old 1, .old 2, .nil] (.inl rfl) rfl rfl rfl ⟨rfl, trivial⟩
theorem fn73 (a b : List Int) (ha : a.length ≤ 1000000000) : FnOK Tryd.prog gidD 73 4 [.sl 2 0 a.length, .sl 3 0 b.length] (hl [(2, .ro (nums a)), (3, .ro (nums b))]) (vb (decide (a = b))) (hl []) 4 := by
  refine FnOK.of ok73 (Nat.le_refl _) (Nat.le_refl _) fun M => ?_
  have hla := nums_len a
  have hlb := nums_len b
  conv => whnf
  (first | refine brD_intro (fun h => ?_) (fun h => ?_) | refine brT_intro (fun h => ?_) (fun h => ?_)) <;> conv => whnf
  · exact retX [.old 0, .old 1, .old 2, .old 3] (.inl rfl) rfl (congrArg (fun b => some (vb b)) (decide_eq_false (fun e => by subst e; exact h rfl))) rfl trivial
  have h1 : (a.length : Int) = b.length := by simpa using h
  refine LoopS.ind (S := Nat) (fun i => [(0, .sl 2 0 a.length), (1, .sl 3 0 b.length), (12, vi a.length), (13, vi i)]) (fun _ => hl [(2, .ro (nums a)), (3, .ro (nums b))]) 4
    (fun i => i ≤ a.length ∧ a.take i = b.take i) (fun i => a.length - i) ?_ 0 ⟨Nat.zero_le _, rfl⟩
  intro i ⟨hi, hb⟩ ih
  refine LoopS.round rfl ?_
  conv => whnf
  by_cases hlt : i < a.length
  · refine brT_true (decide_eq_true (by omega)) ?_
    obtain ⟨x, hx⟩ : ∃ x, a[i]? = some x := ⟨_, List.getElem?_eq_getElem hlt⟩
    obtain ⟨y, hy⟩ : ∃ y, b[i]? = some y := ⟨_, List.getElem?_eq_getElem (by omega)⟩
    conv => whnf
    repeat (refine cndP_intro (by omega) ?_; conv => whnf)
    rw [numAt hx]
    conv => whnf
    repeat (refine cndP_intro (by omega) ?_; conv => whnf)
    rw [numAt hy]
    conv => whnf
    (first | refine brD_intro (fun h => ?_) (fun h => ?_) | refine brT_intro (fun h => ?_) (fun h => ?_)) <;> conv => whnf
    · exact retX [.old 0, .old 1, .old 2, .old 3] (.inl rfl) rfl (congrArg (fun b => some (vb b)) (decide_eq_false (fun e => by subst e; rw [hx] at hy; cases hy; exact h rfl))) rfl trivial
    · have he : x = y := by simpa using h
      subst he
      refine LoopS.ren [.old 0, .old 1, .old 2, .old 3] (ih (i + 1) ⟨hlt, by rw [List.take_add_one, List.take_add_one, hb, hx, hy]⟩ (by omega)) rfl (by decide) ⟨rfl, rfl, rfl, ?_, trivial⟩ ⟨rfl, rfl, trivial⟩
      exact congrArg (fun z => some (vi z)) (w64i hlt (by omega)).symm
  · refine brT_false (decide_eq_false (by omega)) ?_
    clear ih
    conv => whnf
    exact retX [.old 0, .old 1, .old 2, .old 3] (.inl rfl) rfl (congrArg (fun b => some (vb b)) (decide_eq_true (by rw [List.take_of_length_le (by omega), List.take_of_length_le (by omega)] at hb; exact hb))) rfl trivial
end Go.Abs
