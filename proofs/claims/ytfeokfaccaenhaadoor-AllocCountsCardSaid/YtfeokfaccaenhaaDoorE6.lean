/- Contracts: alloc.put, joineryref23.put. -/
import Derived.Test.YtfeokfaccaenhaaDoorE5
set_option linter.unusedVariables false
set_option linter.unusedSimpArgs false
namespace Go.Abs
open Go.Proofs
set_option maxRecDepth 100000
set_option maxHeartbeats 1000000
-- joinery/alloc.put$1
def c110 : C := .seq (.reg none [1, 2, 3, 7, 8, 9] [⟨some 7, none, .mv (.tmp 0)⟩, ⟨some 8, none, .len (.tmp 7)⟩, ⟨some 9, none, .mv (.const (.int .i64 0))⟩]) (.block 0 (.loop [1, 2, 3, 7, 8, 9] (.seq (.reg none [1, 2, 3, 7, 8, 9, 10] [⟨some 10, none, .bin .lss (.tmp 9) (.tmp 8)⟩]) (.seq (.cond (.tmp 10) (.skip) (.exit 0)) (.seq (.block 1 (.seq (.reg none [1, 2, 3, 6, 7, 8, 9] [⟨some 11, none, .ia 6 (.tmp 7) (.tmp 9)⟩, ⟨some 12, none, .ld (some 6) (.tmp 11)⟩, ⟨some 6, none, .new 33 [.int .i64 0, .int .i64 0, .int .i64 0, .int .i64 0, .int .i64 0, .int .i64 0]⟩, ⟨none, none, .st 6 (.tmp 6) (.tmp 12)⟩]) (.seq (.seq (.reg none [1, 2, 3, 6, 7, 8, 9, 26] [⟨some 13, none, .fa 0 (.tmp 6)⟩, ⟨some 14, none, .ld none (.tmp 13)⟩, ⟨some 15, none, .bin .eql (.tmp 14) (.const (.int .i64 16))⟩, ⟨some 16, none, .mv (.tmp 15)⟩, ⟨some 17, some (16, false), .fa 0 (.tmp 6)⟩, ⟨some 18, some (16, false), .ld none (.tmp 17)⟩, ⟨some 19, some (16, false), .bin .eql (.tmp 18) (.const (.int .i64 17))⟩, ⟨some 20, none, .pick (.tmp 16) (.const (.bool true)) (.tmp 19)⟩, ⟨some 21, none, .mv (.tmp 20)⟩, ⟨some 22, some (21, true), .fa 5 (.tmp 6)⟩, ⟨some 23, some (21, true), .ld none (.tmp 22)⟩, ⟨some 24, some (21, true), .ld none (.tmp 1)⟩, ⟨some 25, some (21, true), .bin .gtr (.tmp 23) (.tmp 24)⟩, ⟨some 26, none, .pick (.tmp 21) (.tmp 25) (.const (.bool false))⟩]) (.cond (.tmp 26) (.reg none [1, 2, 3, 6, 7, 8, 9] [⟨some 27, none, .fa 5 (.tmp 6)⟩, ⟨some 28, none, .ld none (.tmp 27)⟩, ⟨some 29, none, .ld none (.tmp 2)⟩, ⟨some 30, none, .len (.tmp 29)⟩, ⟨some 31, none, .bin .add (.tmp 28) (.tmp 30)⟩, ⟨some 32, none, .fa 5 (.tmp 6)⟩, ⟨none, none, .st 1 (.tmp 32) (.tmp 31)⟩]) (.skip))) (.reg none [1, 2, 3, 7, 8, 9] [⟨some 33, none, .ld none (.tmp 3)⟩, ⟨some 34, none, .ld (some 6) (.tmp 6)⟩, ⟨some 35, none, .bsl 33 1 6 [.int .i64 0, .int .i64 0, .int .i64 0, .int .i64 0, .int .i64 0, .int .i64 0] [(0, 0, 6, .tmp 34)]⟩, ⟨some 36, none, .app 33 6 (.tmp 33) (.tmp 35)⟩, ⟨none, none, .st 1 (.tmp 3) (.tmp 36)⟩])))) (.reg none [1, 2, 3, 7, 8, 9] [⟨some 37, none, .bin .add (.tmp 9) (.const (.int .i64 1))⟩, ⟨some 9, none, .mv (.tmp 37)⟩]))))))
theorem ok110 : tabOk Tryd.prog 110 c110 [] 4 = true := by kernel_rfl
-- joinery/alloc.put
def c53 : C := .seq (.reg none [0, 4, 5] [⟨some 4, none, .box 3 1 (.tmp 1)⟩, ⟨some 5, none, .box 22 1 (.tmp 2)⟩, ⟨some 6, none, .mv (.const (.slice none 0 0))⟩, ⟨some 7, none, .mv (.const (.int .i64 0))⟩]) (.seq (.seq (.reg none [0, 4, 5, 15] [⟨some 10, none, .mv (.tmp 0)⟩, ⟨some 11, none, .len (.tmp 10)⟩, ⟨some 12, none, .ld none (.tmp 5)⟩, ⟨some 13, none, .len (.tmp 12)⟩, ⟨some 14, none, .bin .add (.tmp 11) (.tmp 13)⟩, ⟨some 15, none, .bin .gtr (.tmp 14) (.const (.int .i64 200))⟩]) (.cond (.tmp 15) (.seq (.reg none [6, 7] [⟨some 6, none, .mv (.const (.slice none 0 0))⟩, ⟨some 7, none, .mv (.const (.int .i64 3))⟩]) (.ret)) (.skip))) (.seq (.reg none [0, 4, 5, 8] [⟨some 8, none, .new 22 [.slice none 0 0]⟩]) (.seq (.reg none [0, 4, 5, 8, 9] [⟨some 16, none, .clo 110 [.tmp 4, .tmp 5, .tmp 8]⟩, ⟨some 9, none, .mv (.tmp 16)⟩]) (.seq (.reg none [0, 4, 5, 8, 9] [⟨some 17, none, .mv (.tmp 9)⟩, ⟨some 18, none, .mv (.tmp 0)⟩, ⟨some 19, none, .ld none (.tmp 4)⟩, ⟨some 20, none, .slc 6 (.tmp 18) none (some (.tmp 19))⟩, ⟨some 21, none, .callv (.tmp 17) [.tmp 20]⟩]) (.seq (.reg none [0, 4, 8, 9] [⟨some 22, none, .ld none (.tmp 8)⟩, ⟨some 23, none, .ld none (.tmp 5)⟩, ⟨some 24, none, .app 33 6 (.tmp 22) (.tmp 23)⟩, ⟨none, none, .st 1 (.tmp 8) (.tmp 24)⟩]) (.seq (.reg none [8] [⟨some 25, none, .mv (.tmp 9)⟩, ⟨some 26, none, .mv (.tmp 0)⟩, ⟨some 27, none, .ld none (.tmp 4)⟩, ⟨some 28, none, .slc 6 (.tmp 26) (some (.tmp 27)) none⟩, ⟨some 29, none, .callv (.tmp 25) [.tmp 28]⟩]) (.seq (.reg none [6, 7] [⟨some 30, none, .ld none (.tmp 8)⟩, ⟨some 6, none, .mv (.tmp 30)⟩, ⟨some 7, none, .mv (.const (.int .i64 0))⟩]) (.ret))))))))
theorem ok53 : tabOk Tryd.prog 53 c53 [.tmp 6, .tmp 7] 3 = true := by kernel_rfl
def shiftI (at_ m : Int) (x : Ins) : Ins := if (x.op = 16 ∨ x.op = 17) ∧ x.to > at_ then { x with to := IntKind.i64.wrap (x.to + m) } else x
theorem shift_yes {at_ m : Int} {x : Ins} (h : x.op = 16 ∨ x.op = 17) (h2 : x.to > at_) : shiftI at_ m x = { x with to := IntKind.i64.wrap (x.to + m) } := if_pos ⟨h, h2⟩
theorem shift_no {at_ m : Int} {x : Ins} (h : ¬ ((x.op = 16 ∨ x.op = 17) ∧ x.to > at_)) : shiftI at_ m x = x := if_neg h
theorem insCells_snoc (f : List Ins) (x : Ins) : insCells (f ++ [x]) = insCells f ++ x.cells := by simp [insCells]
theorem insCells_app (f g : List Ins) : insCells (f ++ g) = insCells f ++ insCells g := by simp [insCells]
theorem valsIns_len (f : List Ins) : (vals (insCells f)).length = f.length * 6 := by rw [vals_length, insCells_len]
theorem rowSnoc {o : List Ins} {y : Ins} {X : List V} (h : X = vals y.cells) : vals (insCells o) ++ X = vals (insCells (o ++ [y])) := by rw [insCells_snoc, vals_append, h]
theorem take_snoc {α : Type} {l : List α} {i : Nat} {x : α} (h : l[i]? = some x) : l.take (i + 1) = l.take i ++ [x] := by rw [List.take_add_one, h]; rfl
theorem fn110 (p o : List Ins) (at_ : Int) (ml : Nat) (hb : o.length + p.length ≤ 1000000) : FnOK Tryd.prog gidD 110 8 [.sl 2 0 p.length, .ptr 3 0, .ptr 4 0, .ptr 5 0]
    (hl [(2, .ro (insCells p)), (3, .cel 3 [vi at_]), (4, .cel 22 [.sl 7 0 ml]), (5, .cel 22 [.sl 6 0 o.length]), (6, .row 33 (insCells o))]) (.tup [])
    (hl [(3, .cel 3 [vi at_]), (4, .cel 22 [.sl 7 0 ml]), (5, .cel 22 [.sl 8 0 (o.length + p.length)]), (8, .row 33 (insCells (o ++ p.map (shiftI at_ ml))))]) 9 := by
  refine FnOK.of ok110 (Nat.le_refl _) (by decide) fun M => ?_
  have hlp := insCells_len p
  conv => whnf
  refine LoopS.ren (F2 := [(2, .ro (insCells p)), (3, .cel 3 [vi at_]), (4, .cel 22 [.sl 7 0 ml]), (5, .cel 22 [.sl 8 0 (o.length + 0)]), (8, .row 33 (insCells (o ++ (p.take 0).map (shiftI at_ ml))))])
    (fr2 := [(1, .ptr 3 0), (2, .ptr 4 0), (3, .ptr 5 0), (7, .sl 2 0 p.length), (8, vi p.length), (9, vi (0 : Nat))]) (n2 := 9)
    [.old 0, .old 1, .old 2, .old 3, .old 4, .old 5, .old 6, .old 7, .old 6] ?_ rfl (by decide) ⟨rfl, rfl, rfl, rfl, rfl, rfl, trivial⟩ ⟨rfl, ⟨_, rfl, rfl⟩, ⟨_, rfl, rfl⟩, ⟨_, rfl, rfl⟩, ⟨_, rfl, by simp⟩, trivial⟩
  refine LoopS.ind (S := Nat) (fun i => [(1, .ptr 3 0), (2, .ptr 4 0), (3, .ptr 5 0), (7, .sl 2 0 p.length), (8, vi p.length), (9, vi i)])
    (fun i => hl [(2, .ro (insCells p)), (3, .cel 3 [vi at_]), (4, .cel 22 [.sl 7 0 ml]), (5, .cel 22 [.sl 8 0 (o.length + i)]), (8, .row 33 (insCells (o ++ (p.take i).map (shiftI at_ ml))))]) 9
    (fun i => i ≤ p.length) (fun i => p.length - i) ?_ 0 (Nat.zero_le _)
  intro i hi ih
  refine LoopS.round rfl ?_
  conv => whnf
  by_cases hlt : i < p.length
  · refine brT_true (decide_eq_true (by omega)) ?_
    obtain ⟨x, hx⟩ : ∃ x, p[i]? = some x := ⟨_, List.getElem?_eq_getElem hlt⟩
    have hvl : (vals (insCells (o ++ (p.take i).map (shiftI at_ ml)))).length = (o.length + i) * 6 := by rw [valsIns_len]; simp; omega
    have hT := take_snoc hx
    conv => whnf
    repeat (refine cndP_intro (by omega) ?_; conv => whnf)
    rw [insAt hx]
    conv => whnf
    repeat' first
      | (refine brD_intro (fun h => ?_) (fun h => ?_) <;> conv => whnf)
      | (refine cndP_intro (by first | omega | exact hvl) ?_; conv => whnf)
    all_goals
      refine LoopS.ren [.old 0, .old 1, .old 2, .old 3, .old 4, .old 5, .old 6, .old 7, .old 11] (ih (i + 1) hlt (by omega)) rfl (by decide) ⟨rfl, rfl, rfl, rfl, rfl, ?_, trivial⟩ ⟨rfl, ⟨_, rfl, rfl⟩, ⟨_, rfl, rfl⟩, ⟨_, rfl, rfl⟩, ⟨_, rfl, ?_⟩, trivial⟩
      · exact congrArg (fun z => some (vi z)) (w64i hlt (by omega)).symm
      · rw [hT, List.map_append, ← List.append_assoc, List.map_cons, List.map_nil]
        first
          | (rw [shift_yes (by omega) (by omega)]; exact rowSnoc (by kernel_rfl))
          | (rw [shift_no (by omega)]; exact rowSnoc (by kernel_rfl))
  · refine brT_false (decide_eq_false (by omega)) ?_
    have hi : i = p.length := by omega
    subst hi
    clear ih
    conv => whnf
    exact retK [.old 0, .old 1, .old 2, .old 3, .old 4, .old 5, .old 6, .old 7, .old 8] (.inr rfl) rfl rfl rfl ⟨⟨_, rfl, rfl⟩, ⟨_, rfl, rfl⟩, ⟨_, rfl, rfl⟩, ⟨_, rfl, by rw [List.take_length]⟩, trivial⟩
end Go.Abs
