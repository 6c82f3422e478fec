/- Contracts: alloc.put, alloc.Put. -/
import Derived.Test.YtfeokfaccaenhaaDoorE6
set_option linter.unusedVariables false
set_option linter.unusedSimpArgs false
namespace Go.Abs
open Go.Proofs
set_option maxRecDepth 100000
set_option maxHeartbeats 1000000
-- joinery/alloc.Put
def c23 : C := .seq (.reg none [0, 1, 2] [⟨some 6, none, .mv (.const (.slice none 0 0))⟩, ⟨some 7, none, .mv (.const (.int .i64 0))⟩]) (.seq (.seq (.reg none [0, 1, 2, 13] [⟨some 10, none, .mv (.tmp 0)⟩, ⟨some 11, none, .mv (.tmp 1)⟩, ⟨some 12, none, .call 50 [.tmp 10, .tmp 11]⟩, ⟨some 13, none, .un .not (.tmp 12)⟩]) (.cond (.tmp 13) (.seq (.reg none [6, 7] [⟨some 6, none, .mv (.const (.slice none 0 0))⟩, ⟨some 7, none, .mv (.const (.int .i64 1))⟩]) (.ret)) (.skip))) (.seq (.seq (.reg none [0, 1, 2, 14, 15, 16] [⟨some 14, none, .mv (.tmp 2)⟩, ⟨some 15, none, .len (.tmp 14)⟩, ⟨some 16, none, .mv (.const (.int .i64 0))⟩]) (.block 0 (.loop [0, 1, 2, 14, 15, 16] (.seq (.reg none [0, 1, 2, 14, 15, 16, 17] [⟨some 17, none, .bin .lss (.tmp 16) (.tmp 15)⟩]) (.seq (.cond (.tmp 17) (.skip) (.exit 0)) (.seq (.block 1 (.seq (.reg none [0, 1, 2, 9, 14, 15, 16] [⟨some 18, none, .ia 6 (.tmp 14) (.tmp 16)⟩, ⟨some 19, none, .ld (some 6) (.tmp 18)⟩, ⟨some 9, none, .new 33 [.int .i64 0, .int .i64 0, .int .i64 0, .int .i64 0, .int .i64 0, .int .i64 0]⟩, ⟨none, none, .st 6 (.tmp 9) (.tmp 19)⟩]) (.seq (.reg none [0, 1, 2, 14, 15, 16, 28] [⟨some 20, none, .ld (some 6) (.tmp 9)⟩, ⟨some 21, none, .call 51 [.tmp 20]⟩, ⟨some 22, none, .mv (.tmp 21)⟩, ⟨some 23, some (22, false), .ld (some 6) (.tmp 9)⟩, ⟨some 24, some (22, false), .mv (.tmp 0)⟩, ⟨some 25, some (22, false), .len (.tmp 24)⟩, ⟨some 26, some (22, false), .call 52 [.tmp 23, .tmp 25]⟩, ⟨some 27, some (22, false), .bin .neq (.tmp 26) (.const (.int .i64 0))⟩, ⟨some 28, none, .pick (.tmp 22) (.const (.bool true)) (.tmp 27)⟩]) (.cond (.tmp 28) (.seq (.reg none [6, 7] [⟨some 6, none, .mv (.const (.slice none 0 0))⟩, ⟨some 7, none, .mv (.const (.int .i64 1))⟩]) (.ret)) (.skip))))) (.reg none [0, 1, 2, 14, 15, 16] [⟨some 29, none, .bin .add (.tmp 16) (.const (.int .i64 1))⟩, ⟨some 16, none, .mv (.tmp 29)⟩]))))))) (.seq (.reg none [6, 7] [⟨some 30, none, .mv (.tmp 0)⟩, ⟨some 31, none, .mv (.tmp 1)⟩, ⟨some 32, none, .mv (.tmp 2)⟩, ⟨some 33, none, .call 53 [.tmp 30, .tmp 31, .tmp 32]⟩, ⟨some 34, none, .ext (.tmp 33) 0⟩, ⟨some 35, none, .ext (.tmp 33) 1⟩, ⟨some 6, none, .mv (.tmp 34)⟩, ⟨some 7, none, .mv (.tmp 35)⟩]) (.ret))))
theorem ok23 : tabOk Tryd.prog 23 c23 [.tmp 6, .tmp 7] 3 = true := by kernel_rfl
def putL (f : List Ins) (at_ : Nat) (l : List Ins) : List Ins := ((f.take at_).map (shiftI at_ l.length) ++ l) ++ (f.drop at_).map (shiftI at_ l.length)
def putE (f : List Ins) (at_ : Nat) (l : List Ins) : List Ins × Int := if f.length + l.length > 200 then ([], 3) else (putL f at_ l, 0)
theorem cells_len (x : Ins) : x.cells.length = 6 := rfl
theorem insCells_cons (x : Ins) (f : List Ins) : insCells (x :: f) = x.cells ++ insCells f := rfl
theorem insCells_take (f : List Ins) (n : Nat) : insCells (f.take n) = (insCells f).take (n * 6) := by
  induction f generalizing n with
  | nil => simp [insCells]
  | cons x f ih =>
    cases n with
    | zero => simp [insCells]
    | succ n => rw [List.take_succ_cons, insCells_cons, insCells_cons, ih, List.take_append, cells_len, List.take_of_length_le (l := x.cells) (by rw [cells_len]; omega), show (n + 1) * 6 - 6 = n * 6 by omega]
theorem insCells_drop (f : List Ins) (n : Nat) : insCells (f.drop n) = (insCells f).drop (n * 6) := by
  induction f generalizing n with
  | nil => simp [insCells]
  | cons x f ih =>
    cases n with
    | zero => simp
    | succ n => rw [List.drop_succ_cons, ih, insCells_cons, List.drop_append, cells_len, List.drop_of_length_le (l := x.cells) (by rw [cells_len]; omega), List.nil_append, show (n + 1) * 6 - 6 = n * 6 by omega]
theorem subPart (f : List Ins) (i n : Nat) : (Blk.ro (insCells f)).sub (i * 6) (insCells ((f.drop i).take n)).length = vals (insCells ((f.drop i).take n)) := by
  rw [insCells_take, insCells_drop]
  simp only [Blk.sub, Blk.cellsV, vals, List.length_map, List.map_take, List.map_drop, List.length_take, List.length_drop]
  rw [List.take_eq_take_iff]
  simp
theorem partLe (f : List Ins) (i n : Nat) (h : i ≤ f.length) : i * 6 + (insCells ((f.drop i).take n)).length ≤ (Blk.ro (insCells f)).cellsV.length := by
  simp only [Blk.cellsV, vals_length, insCells_len, List.length_take, List.length_drop]
  omega
theorem flatIns (l : List Ins) : (vals (insCells l)).all V.flat = true := by
  induction l with
  | nil => rfl
  | cons x l ih => rw [insCells_cons, vals_append, List.all_append, ih]; rfl
theorem subIns (l : List Ins) : (FB.ro (insCells l)).blk.sub 0 (l.length * 6) = vals (insCells l) := by
  have := subRo (insCells l)
  rw [insCells_len] at this
  exact this
theorem fn53 (f l : List Ins) (at_ : Nat) (ha : at_ ≤ f.length) (hf : f.length ≤ 300) (hl : l.length ≤ 300) : FnOK Tryd.prog gidD 53 4 [.sl 2 0 f.length, vi at_, .sl 3 0 l.length]
    (Abs.hl [(2, .ro (insCells f)), (3, .ro (insCells l))]) (.tup [.sl 4 0 (putE f at_ l).1.length, vi (putE f at_ l).2]) (Abs.hl [(4, .row 33 (insCells (putE f at_ l).1))]) 5 := by
  refine FnOK.of ok53 (Nat.le_refl _) (by decide) fun M => ?_
  have hlf := insCells_len f
  have hll := insCells_len l
  have hw : IntKind.i64.wrap ((f.length : Int) + l.length) = ((f.length + l.length : Nat) : Int) := by rw [w64 (by omega) (by omega)]; rfl
  conv => whnf
  rw [hw]
  (first | refine brD_intro (fun h => ?_) (fun h => ?_) | refine brT_intro (fun h => ?_) (fun h => ?_)) <;> conv => whnf
  · have hE : putE f at_ l = ([], 3) := if_pos (by omega)
    rw [hE]
    exact retX [.old 0, .old 1, .old 2, .old 3, .nil] (.inl rfl) rfl rfl rfl ⟨rfl, trivial⟩
  have hE : putE f at_ l = (putL f at_ l, 0) := if_neg (by omega)
  rw [hE]
  repeat (refine cndP_intro (by omega) ?_; conv => whnf)
  have h1 := fn110 (f.take at_) [] at_ l.length (by simp; omega)
  rw [List.length_take, Nat.min_eq_left ha, List.length_nil] at h1
  have h2 := fn110 (f.drop at_) ((f.take at_).map (shiftI at_ l.length) ++ l) at_ l.length (by simp; omega)
  rw [List.length_drop, show ((f.take at_).map (shiftI at_ l.length) ++ l).length = 0 + at_ + l.length by simp; omega] at h2
  have hp1 := subPart f 0 at_
  have hp2 := partLe f 0 at_ (by omega)
  rw [List.drop_zero] at hp1 hp2
  refine callX h1 [.old 0, .old 1, .view 2 (0 + 0 * 6), .old _, .old _, .old _, .nil, .old 3] rfl rfl rfl rfl ⟨⟨_, rfl, hp2, hp1⟩, ⟨_, rfl, rfl⟩, ⟨_, rfl, rfl⟩, ⟨_, rfl, rfl⟩, rfl, trivial⟩ ?_
  conv => whnf
  clear hp1 hp2
  have hv1 : (vals (insCells ([] ++ (f.take at_).map (shiftI at_ l.length)))).length = (0 + at_) * 6 := by rw [valsIns_len]; simp; omega
  have hv2 : 0 + l.length * 6 ≤ (FB.ro (insCells l)).blk.cellsV.length := by show _ ≤ (vals _).length; rw [valsIns_len]; omega
  have hv3 : ((FB.ro (insCells l)).blk.sub 0 (l.length * 6)).all V.flat = true := by rw [subIns]; exact flatIns l
  refine cndP_intro hv1 ?_
  conv => whnf
  refine cndP_intro hv2 ?_
  conv => whnf
  refine cndP_intro hv3 ?_
  conv => whnf
  repeat (refine cndP_intro (by omega) ?_; conv => whnf)
  have hp1 := subPart f at_ (f.length - at_)
  have hp2 := partLe f at_ (f.length - at_) ha
  have e3 : (f.drop at_).take (f.length - at_) = f.drop at_ := List.take_of_length_le (by simp)
  rw [e3] at hp1 hp2
  rw [show at_ * 6 = 0 + Int.toNat (at_ : Int) * 6 by simp] at hp1 hp2
  refine callX h2 [.old 0, .old 1, .view 2 (0 + Int.toNat (at_ : Int) * 6), .old 4, .old 5, .old 6, .old 8, .old 3] rfl rfl rfl rfl ⟨⟨_, rfl, hp2, hp1⟩, ⟨_, rfl, rfl⟩, ⟨_, rfl, rfl⟩, ⟨_, rfl, rfl⟩, ⟨_, rfl, ?_⟩, trivial⟩ ?_
  · rw [subIns, List.nil_append, insCells_app, vals_append]
  conv => whnf
  have hL : (putL f at_ l).length = 0 + at_ + l.length + (f.length - at_) := by simp [putL]; omega
  dsimp only
  rw [hL]
  exact retX [.old 0, .old 1, .old 2, .old 3, .old 9] (.inl rfl) rfl rfl rfl ⟨⟨_, rfl, rfl⟩, trivial⟩
end Go.Abs
