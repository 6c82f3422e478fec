/- Contracts: what two runs tell, part 1. -/
import Derived.Test.YtfeokfaccaenhaaDoorE27
import Derived.Test.YtfeokfaccaenhaaDoorE29
set_option linter.unusedVariables false
set_option linter.unusedSimpArgs false
namespace Go.Abs
open Go.Proofs
set_option maxRecDepth 100000
set_option maxHeartbeats 2000000
-- joinery/differ.Begins
def c70 : C := .seq (.reg none [0, 1] [⟨some 4, none, .mv (.const (.bool false))⟩]) (.seq (.seq (.reg none [0, 1, 11] [⟨some 7, none, .mv (.tmp 0)⟩, ⟨some 8, none, .len (.tmp 7)⟩, ⟨some 9, none, .mv (.tmp 1)⟩, ⟨some 10, none, .len (.tmp 9)⟩, ⟨some 11, none, .bin .gtr (.tmp 8) (.tmp 10)⟩]) (.cond (.tmp 11) (.seq (.reg none [4] [⟨some 4, none, .mv (.const (.bool false))⟩]) (.ret)) (.skip))) (.seq (.seq (.reg none [1, 12, 13, 14] [⟨some 12, none, .mv (.tmp 0)⟩, ⟨some 13, none, .len (.tmp 12)⟩, ⟨some 14, none, .mv (.const (.int .i64 0))⟩]) (.block 0 (.loop [1, 12, 13, 14] (.seq (.reg none [1, 12, 13, 14, 15] [⟨some 15, none, .bin .lss (.tmp 14) (.tmp 13)⟩]) (.seq (.cond (.tmp 15) (.skip) (.exit 0)) (.seq (.block 1 (.seq (.reg none [1, 5, 6, 12, 13, 14] [⟨some 16, none, .mv (.tmp 14)⟩, ⟨some 17, none, .ia 3 (.tmp 12) (.tmp 14)⟩, ⟨some 18, none, .ld (some 3) (.tmp 17)⟩, ⟨some 6, none, .new 205 [.int .i64 0, .int .i64 0, .int .i64 0]⟩, ⟨some 5, none, .mv (.tmp 16)⟩, ⟨none, none, .st 3 (.tmp 6) (.tmp 18)⟩]) (.seq (.reg (some [[], [0], [0, 1], [0], [0], []]) [1, 12, 13, 14, 24] [⟨some 19, none, .ld (some 3) (.tmp 6)⟩, ⟨some 20, none, .mv (.tmp 1)⟩, ⟨some 21, none, .mv (.tmp 5)⟩, ⟨some 22, none, .ia 3 (.tmp 20) (.tmp 21)⟩, ⟨some 23, none, .ld (some 3) (.tmp 22)⟩, ⟨some 24, none, .eqs 3 205 true (.tmp 19) (.tmp 23)⟩]) (.cond (.tmp 24) (.seq (.reg none [4] [⟨some 4, none, .mv (.const (.bool false))⟩]) (.ret)) (.skip))))) (.reg none [1, 12, 13, 14] [⟨some 25, none, .bin .add (.tmp 14) (.const (.int .i64 1))⟩, ⟨some 14, none, .mv (.tmp 25)⟩]))))))) (.seq (.reg none [4] [⟨some 4, none, .mv (.const (.bool true))⟩]) (.ret))))
theorem ok70 : tabOk Tryd.prog 70 c70 [.tmp 4] 2 = true := by kernel_rfl
-- joinery/differ.Halted
def c72 : C := .seq (.reg none [1] [⟨some 1, none, .box 103 6 (.tmp 0)⟩, ⟨some 2, none, .mv (.const (.bool false))⟩]) (.seq (.seq (.reg none [5] [⟨some 3, none, .fa 1 (.tmp 1)⟩, ⟨some 4, none, .fa 0 (.tmp 3)⟩, ⟨some 5, none, .ld none (.tmp 4)⟩]) (.block 0 (.seq (.seq (.reg none [5, 6] [⟨some 7, none, .bin .eql (.tmp 5) (.const (.int .i64 1))⟩, ⟨some 6, none, .mv (.tmp 7)⟩]) (.cond (.tmp 6) (.skip) (.seq (.reg none [5, 6] [⟨some 8, none, .bin .eql (.tmp 5) (.const (.int .i64 2))⟩, ⟨some 6, none, .mv (.tmp 8)⟩]) (.cond (.tmp 6) (.skip) (.seq (.reg none [5, 6] [⟨some 9, none, .bin .eql (.tmp 5) (.const (.int .i64 3))⟩, ⟨some 6, none, .mv (.tmp 9)⟩]) (.cond (.tmp 6) (.skip) (.reg none [6] [⟨some 10, none, .bin .eql (.tmp 5) (.const (.int .i64 4))⟩, ⟨some 6, none, .mv (.tmp 10)⟩]))))))) (.cond (.tmp 6) (.seq (.reg none [2] [⟨some 2, none, .mv (.const (.bool true))⟩]) (.ret)) (.skip))))) (.seq (.reg none [2] [⟨some 2, none, .mv (.const (.bool false))⟩]) (.ret)))
theorem ok72 : tabOk Tryd.prog 72 c72 [.tmp 2] 1 = true := by kernel_rfl
-- joinery/differ.of
def c67 : C := .seq (.reg none [0, 3, 4] [⟨some 3, none, .box 39 11 (.tmp 1)⟩, ⟨some 4, none, .new 105 [.slice none 0 0, .int .i64 0, .int .i64 0, .slice none 0 0, .int .i64 0, .int .i64 0, .bool false]⟩, ⟨some 5, none, .mv (.const (.int .i64 0))⟩]) (.seq (.reg none [0, 4, 6, 7, 8] [⟨some 12, none, .mv (.tmp 0)⟩, ⟨some 13, none, .ld (some 11) (.tmp 3)⟩, ⟨some 14, none, .call 114 [.tmp 12, .tmp 13]⟩, ⟨some 11, none, .mv (.tmp 14)⟩, ⟨some 15, none, .ext (.tmp 11) 0⟩, ⟨some 16, none, .ext (.tmp 11) 1⟩, ⟨some 17, none, .ext (.tmp 11) 2⟩, ⟨some 6, none, .new 103 [.slice none 0 0, .int .i64 0, .int .i64 0, .slice none 0 0, .int .i64 0, .int .i64 0]⟩, ⟨some 7, none, .new 197 [.bool false, .int .i64 0, .bool false, .int .i64 0, .bool false, .int .i64 0, .bool false, .int .i64 0, .bool false, .int .i64 0, .bool false, .int .i64 0, .bool false, .int .i64 0, .bool false, .int .i64 0, .bool false, .int .i64 0, .bool false, .int .i64 0, .bool false, .int .i64 0, .bool false, .int .i64 0, .bool false, .int .i64 0, .bool false, .int .i64 0, .bool false, .int .i64 0, .bool false, .int .i64 0, .bool false, .int .i64 0, .bool false, .int .i64 0, .bool false, .int .i64 0, .bool false, .int .i64 0, .bool false, .int .i64 0, .bool false, .int .i64 0, .bool false, .int .i64 0, .bool false, .int .i64 0, .slice none 0 0, .int .i64 0, .int .i64 0]⟩, ⟨none, none, .st 6 (.tmp 6) (.tmp 15)⟩, ⟨none, none, .st 51 (.tmp 7) (.tmp 16)⟩, ⟨some 8, none, .mv (.tmp 17)⟩]) (.seq (.seq (.reg none [0, 4, 6, 7, 8, 19] [⟨some 18, none, .mv (.tmp 8)⟩, ⟨some 19, none, .bin .neq (.tmp 18) (.const (.int .i64 0))⟩]) (.cond (.tmp 19) (.seq (.reg none [4, 5] [⟨some 20, none, .bld 105 [.slice none 0 0, .int .i64 0, .int .i64 0, .slice none 0 0, .int .i64 0, .int .i64 0, .bool false] []⟩, ⟨some 21, none, .mv (.tmp 8)⟩, ⟨none, none, .st 7 (.tmp 4) (.tmp 20)⟩, ⟨some 5, none, .mv (.tmp 21)⟩]) (.ret)) (.skip))) (.seq (.reg none [4, 6, 9] [⟨some 23, none, .mv (.tmp 0)⟩, ⟨some 24, none, .fa 49 (.tmp 7)⟩, ⟨some 25, none, .ld none (.tmp 24)⟩, ⟨some 26, none, .call 115 [.tmp 23, .tmp 25]⟩, ⟨some 22, none, .mv (.tmp 26)⟩, ⟨some 27, none, .ext (.tmp 22) 0⟩, ⟨some 28, none, .ext (.tmp 22) 1⟩, ⟨some 9, none, .new 201 [.int .i64 0, .nilIface, .nilIface, .nilIface, .nilIface, .nilIface, .nilIface, .nilIface, .nilIface, .nilIface, .nilIface, .nilIface, .nilIface, .nilIface, .nilIface, .nilIface, .nilIface, .nilIface, .nilIface, .nilIface, .nilIface, .nilIface, .nilIface, .nilIface, .nilIface, .int .i64 0]⟩, ⟨none, none, .st 26 (.tmp 9) (.tmp 27)⟩, ⟨some 10, none, .mv (.tmp 28)⟩]) (.seq (.reg none [4, 5] [⟨some 29, none, .ld (some 6) (.tmp 6)⟩, ⟨some 30, none, .fa 1 (.tmp 6)⟩, ⟨some 31, none, .fa 0 (.tmp 30)⟩, ⟨some 32, none, .ld none (.tmp 31)⟩, ⟨some 33, none, .bin .eql (.tmp 32) (.const (.int .i64 0))⟩, ⟨some 34, none, .mv (.tmp 33)⟩, ⟨some 35, some (34, true), .fa 0 (.tmp 9)⟩, ⟨some 36, some (34, true), .ld none (.tmp 35)⟩, ⟨some 37, some (34, true), .bin .lss (.tmp 36) (.const (.int .i64 0))⟩, ⟨some 38, none, .pick (.tmp 34) (.tmp 37) (.const (.bool false))⟩, ⟨some 39, none, .bld 105 [.slice none 0 0, .int .i64 0, .int .i64 0, .slice none 0 0, .int .i64 0, .int .i64 0, .bool false] [(0, 0, 6, .tmp 29), (1, 6, 1, .tmp 38)]⟩, ⟨none, none, .st 7 (.tmp 4) (.tmp 39)⟩, ⟨some 5, none, .mv (.const (.int .i64 0))⟩]) (.ret)))))
theorem ok67 : tabOk Tryd.prog 67 c67 [.cell 4 105 (some 7), .tmp 5] 2 = true := by kernel_rfl
-- joinery/differ.either
def c68 : C := .seq (.reg none [2, 3, 4] [⟨some 3, none, .box 105 7 (.tmp 0)⟩, ⟨some 4, none, .box 105 7 (.tmp 1)⟩, ⟨some 6, none, .mv (.const (.bool false))⟩]) (.seq (.reg none [6] [⟨some 7, none, .mv (.tmp 2)⟩, ⟨some 8, none, .ld (some 7) (.tmp 3)⟩, ⟨some 9, none, .ld (some 7) (.tmp 4)⟩, ⟨some 10, none, .callv (.tmp 7) [.tmp 8, .tmp 9]⟩, ⟨some 11, none, .mv (.tmp 10)⟩, ⟨some 12, some (11, false), .mv (.tmp 2)⟩, ⟨some 13, some (11, false), .ld (some 7) (.tmp 4)⟩, ⟨some 14, some (11, false), .ld (some 7) (.tmp 3)⟩, ⟨some 15, some (11, false), .callv (.tmp 12) [.tmp 13, .tmp 14]⟩, ⟨some 16, none, .pick (.tmp 11) (.const (.bool true)) (.tmp 15)⟩, ⟨some 6, none, .mv (.tmp 16)⟩]) (.ret))
theorem ok68 : tabOk Tryd.prog 68 c68 [.tmp 6] 3 = true := by kernel_rfl
-- joinery/differ.Tell$1
def c69 : C := .seq (.reg none [2, 3] [⟨some 2, none, .box 105 7 (.tmp 0)⟩, ⟨some 3, none, .box 105 7 (.tmp 1)⟩, ⟨some 4, none, .mv (.const (.bool false))⟩]) (.seq (.reg none [4] [⟨some 5, none, .fa 0 (.tmp 2)⟩, ⟨some 6, none, .fa 0 (.tmp 5)⟩, ⟨some 7, none, .ld none (.tmp 6)⟩, ⟨some 8, none, .fa 0 (.tmp 3)⟩, ⟨some 9, none, .fa 0 (.tmp 8)⟩, ⟨some 10, none, .ld none (.tmp 9)⟩, ⟨some 11, none, .call 70 [.tmp 7, .tmp 10]⟩, ⟨some 4, none, .mv (.tmp 11)⟩]) (.ret))
theorem ok69 : tabOk Tryd.prog 69 c69 [.tmp 4] 2 = true := by kernel_rfl
-- joinery/differ.Tell$2
def c71 : C := .seq (.reg none [2, 3] [⟨some 2, none, .box 105 7 (.tmp 0)⟩, ⟨some 3, none, .box 105 7 (.tmp 1)⟩, ⟨some 4, none, .mv (.const (.bool false))⟩]) (.seq (.reg none [4] [⟨some 5, none, .fa 0 (.tmp 2)⟩, ⟨some 6, none, .ld (some 6) (.tmp 5)⟩, ⟨some 7, none, .call 72 [.tmp 6]⟩, ⟨some 8, none, .mv (.tmp 7)⟩, ⟨some 9, some (8, true), .fa 0 (.tmp 3)⟩, ⟨some 10, some (8, true), .fa 0 (.tmp 9)⟩, ⟨some 11, some (8, true), .ld none (.tmp 10)⟩, ⟨some 12, some (8, true), .fa 0 (.tmp 2)⟩, ⟨some 13, some (8, true), .fa 0 (.tmp 12)⟩, ⟨some 14, some (8, true), .ld none (.tmp 13)⟩, ⟨some 15, some (8, true), .call 70 [.tmp 11, .tmp 14]⟩, ⟨some 16, some (8, true), .un .not (.tmp 15)⟩, ⟨some 17, none, .pick (.tmp 8) (.tmp 16) (.const (.bool false))⟩, ⟨some 4, none, .mv (.tmp 17)⟩]) (.ret))
theorem ok71 : tabOk Tryd.prog 71 c71 [.tmp 4] 2 = true := by kernel_rfl
-- joinery/differ.Tell$3
def c74 : C := .seq (.reg none [2, 3] [⟨some 2, none, .box 105 7 (.tmp 0)⟩, ⟨some 3, none, .box 105 7 (.tmp 1)⟩, ⟨some 4, none, .mv (.const (.bool false))⟩]) (.seq (.reg none [4] [⟨some 5, none, .fa 0 (.tmp 2)⟩, ⟨some 6, none, .ld (some 6) (.tmp 5)⟩, ⟨some 7, none, .call 72 [.tmp 6]⟩, ⟨some 8, none, .mv (.tmp 7)⟩, ⟨some 9, some (8, true), .fa 6 (.tmp 3)⟩, ⟨some 10, some (8, true), .ld none (.tmp 9)⟩, ⟨some 11, none, .pick (.tmp 8) (.tmp 10) (.const (.bool false))⟩, ⟨some 4, none, .mv (.tmp 11)⟩]) (.ret))
theorem ok74 : tabOk Tryd.prog 74 c74 [.tmp 4] 2 = true := by kernel_rfl
theorem evAt {l : List Evn} {i : Nat} {e : Evn} (h : l[i]? = some e) : List.take 3 (List.drop (0 + Int.toNat (i : Int) * 3) (evCells l)) = [i64 e.n, i64 e.arg, i64 e.ans] := by
  rw [Nat.zero_add, Int.toNat_natCast]
  induction l generalizing i with
  | nil => simp at h
  | cons y l ih =>
    cases i with
    | zero => simp at h; subst h; rfl
    | succ i =>
      have := ih (i := i) (by simpa using h)
      rw [show (i + 1) * 3 = i * 3 + 3 by omega, show evCells (y :: l) = [i64 y.n, i64 y.arg, i64 y.ans] ++ evCells l from rfl, Nat.add_comm, ← List.drop_drop]
      exact this
theorem fn70 (a b : List Evn) (ha : a.length ≤ 1000000) : FnOK Tryd.prog gidD 70 4 [.sl 2 0 a.length, .sl 3 0 b.length] (hl [(2, .ro (evCells a)), (3, .ro (evCells b))]) (vb (evLe a b)) (hl []) 4 := by
  refine FnOK.of ok70 (Nat.le_refl _) (Nat.le_refl _) fun M => ?_
  have hla := evCells_len a
  have hlb := evCells_len b
  conv => whnf
  (first | refine brD_intro (fun h => ?_) (fun h => ?_) | refine brT_intro (fun h => ?_) (fun h => ?_)) <;> conv => whnf
  · exact retX [.old 0, .old 1, .old 2, .old 3] (.inl rfl) rfl (congrArg (fun b => some (vb b)) (decide_eq_false (fun e => by have := congrArg List.length e; simp at this; omega))) rfl trivial
  refine LoopS.ind (S := Nat) (fun i => [(1, .sl 3 0 b.length), (12, .sl 2 0 a.length), (13, vi a.length), (14, vi i)]) (fun _ => hl [(2, .ro (evCells a)), (3, .ro (evCells b))]) 4
    (fun i => i ≤ a.length ∧ a.take i = b.take i) (fun i => a.length - i) ?_ 0 ⟨Nat.zero_le _, rfl⟩
  intro i ⟨hi, hb⟩ ih
  refine LoopS.round rfl ?_
  conv => whnf
  by_cases hlt : i < a.length
  · refine brT_true (decide_eq_true (by omega)) ?_
    obtain ⟨x, hx⟩ : ∃ x, a[i]? = some x := ⟨_, List.getElem?_eq_getElem hlt⟩
    obtain ⟨y, hy⟩ : ∃ y, b[i]? = some y := ⟨_, List.getElem?_eq_getElem (by omega)⟩
    conv => whnf
    repeat (refine cndP_intro (by omega) ?_; conv => whnf)
    rw [evAt hx]
    conv => whnf
    repeat (refine cndP_intro (by first | exact rfl | omega) ?_; conv => whnf)
    rw [evAt hy]
    conv => whnf
    repeat (refine cndP_intro (by first | exact rfl | omega) ?_; conv => whnf)
    have hq : eqInts [(IntKind.i64, x.n), (IntKind.i64, x.arg), (IntKind.i64, x.ans)] [(IntKind.i64, y.n), (IntKind.i64, y.arg), (IntKind.i64, y.ans)] = decide (x = y) := by
      cases x; cases y; simp [eqInts, Bool.eq_iff_iff]
    rw [hq]
    by_cases he : x = y
    · subst he
      rw [decide_eq_true rfl]
      conv => whnf
      refine LoopS.ren [.old 0, .old 1, .old 2, .old 3] (ih (i + 1) ⟨hlt, by rw [List.take_add_one, List.take_add_one, hb, hx, hy]⟩ (by omega)) rfl (by decide) ⟨rfl, rfl, rfl, congrArg (fun z => some (vi z)) (w64i hlt (by omega)).symm, trivial⟩ ⟨rfl, rfl, trivial⟩
    · rw [decide_eq_false he]
      conv => whnf
      refine retX [.old 0, .old 1, .old 2, .old 3] (.inl rfl) rfl (congrArg (fun b => some (vb b)) (decide_eq_false (fun e => he ?_))) rfl trivial
      have h2 : a[i]? = (b.take a.length)[i]? := by rw [← e]
      rw [List.getElem?_take_of_lt hlt, hx, hy] at h2
      exact Option.some.inj h2
  · refine brT_false (decide_eq_false (by omega)) ?_
    clear ih
    conv => whnf
    exact retX [.old 0, .old 1, .old 2, .old 3] (.inl rfl) rfl (congrArg (fun b => some (vb b)) (decide_eq_true (by rw [List.take_of_length_le (by omega)] at hb; rw [show a.length = i by omega]; exact hb))) rfl trivial
theorem fn72 (t : Trc) : FnOK Tryd.prog gidD 72 4 [.agg (trV 2 3 t)] (hl []) (vb (halted t.out)) (hl []) 4 := by
  refine FnOK.of ok72 (Nat.le_refl _) (Nat.le_refl _) fun M => ?_
  conv => whnf
  repeat' ((first | refine brD_intro (fun h => ?_) (fun h => ?_) | refine brT_intro (fun h => ?_) (fun h => ?_)) <;> conv => whnf)
  all_goals exact retX [.old 0, .old 1, .old 2, .old 3] (.inl rfl) rfl (congrArg (fun b => some (vb b)) (by unfold halted; first | (exact decide_eq_true (by omega)) | (exact decide_eq_false (by omega)))) rfl trivial
/-- A side as a value. -/
def sdC (ke kh : Nat) (t : Trc) (sil : Bool) : List V := trV ke kh t ++ [vb sil]
theorem fn69 (t u : Trc) (p q : Bool) (ht : t.ev.length ≤ 1000000) : FnOK Tryd.prog gidD 69 6 [.agg (sdC 2 3 t p), .agg (sdC 4 5 u q)] (hl [(2, .ro (evCells t.ev)), (4, .ro (evCells u.ev))]) (vb (evLe t.ev u.ev)) (hl []) 6 := by
  refine FnOK.of ok69 (Nat.le_refl _) (Nat.le_refl _) fun M => ?_
  conv => whnf
  refine callX (fn70 t.ev u.ev ht) [.old 0, .old 1, .old 2, .old 4] rfl rfl rfl rfl ⟨rfl, rfl, trivial⟩ ?_
  conv => whnf
  exact retX [.old 0, .old 1, .old 2, .old 3, .old 4, .old 5] (.inl rfl) rfl rfl rfl trivial
theorem fn71 (t u : Trc) (p q : Bool) (hu : u.ev.length ≤ 1000000) : FnOK Tryd.prog gidD 71 6 [.agg (sdC 2 3 t p), .agg (sdC 4 5 u q)] (hl [(2, .ro (evCells t.ev)), (4, .ro (evCells u.ev))]) (vb (halted t.out && !evLe u.ev t.ev)) (hl []) 6 := by
  refine FnOK.of ok71 (Nat.le_refl _) (Nat.le_refl _) fun M => ?_
  have hH := fn72 t
  generalize halted t.out = b at hH ⊢
  conv => whnf
  refine callX hH [.old 0, .old 1, .old 2, .old 3] rfl rfl rfl rfl trivial ?_
  cases b
  · conv => whnf
    exact retX [.old 0, .old 1, .old 2, .old 3, .old 4, .old 5] (.inl rfl) rfl rfl rfl trivial
  · conv => whnf
    refine callX (fn70 u.ev t.ev hu) [.old 0, .old 1, .old 4, .old 2] rfl rfl rfl rfl ⟨rfl, rfl, trivial⟩ ?_
    conv => whnf
    exact retX [.old 0, .old 1, .old 2, .old 3, .old 4, .old 5] (.inl rfl) rfl rfl rfl trivial
theorem fn74 (t u : Trc) (p q : Bool) : FnOK Tryd.prog gidD 74 6 [.agg (sdC 2 3 t p), .agg (sdC 4 5 u q)] (hl []) (vb (halted t.out && q)) (hl []) 6 := by
  refine FnOK.of ok74 (Nat.le_refl _) (Nat.le_refl _) fun M => ?_
  have hH := fn72 t
  generalize halted t.out = b at hH ⊢
  conv => whnf
  refine callX hH [.old 0, .old 1, .old 2, .old 3] rfl rfl rfl rfl trivial ?_
  cases b
  all_goals
    conv => whnf
    exact retX [.old 0, .old 1, .old 2, .old 3, .old 4, .old 5] (.inl rfl) rfl rfl rfl trivial
theorem fn67n (f : List Ins) (c : Cas) (hR : c.R.length = 8) (hf : fair f c = false) : FnOK Tryd.prog gidD 67 5 [.sl 2 0 f.length, caV 3 4 c] (hl [(0, .ro shapesV), (2, .ro (insCells f))])
    (.tup [.agg [nilV, vi 0, vi 0, nilV, vi 0, vi 0, vb false], vi 1]) (hl []) 5 := by
  refine FnOK.of ok67 (Nat.le_refl _) (Nat.le_refl _) fun M => ?_
  have h1 := fn114n f c hR hf
  obtain ⟨R, H, A, fuel⟩ := c
  simp only at hR
  obtain ⟨r0, r1, r2, r3, r4, r5, r6, r7, hRe⟩ := list8 hR
  unfold caV caC at h1 ⊢
  simp only at h1 ⊢
  rw [hRe] at h1 ⊢
  conv => whnf
  refine callX h1 [.old 0, .old 1, .old 2, .old 3, .old 4] rfl rfl rfl rfl ⟨rfl, rfl, trivial⟩ ?_
  conv => whnf
  exact retX [.old 0, .old 1, .old 2, .old 3, .old 4] (.inl rfl) rfl rfl rfl trivial
def silB (f : List Ins) (c : Cas) : Bool := decide ((runC f c).2.out.how = 0) && (pathE f (runC f c).1.pc).isNone
theorem pathL_ok {f : List Ins} (hr : right f = true) : ∀ {k p : Nat} {T : List So} {n q : Nat} {T' : List So} {n' : Nat}, p < f.length → Okt T → pathL f k p T n = some (q, T', n') → Okt T' ∧ q < f.length
  | 0, p, T, n, q, T', n', hp, hT, h => by cases h
  | k + 1, p, T, n, q, T', n', hp, hT, h => by
    obtain ⟨x, hx⟩ : ∃ x, f[p]? = some x := ⟨_, List.getElem?_eq_getElem hp⟩
    obtain ⟨hd, ha, _⟩ := insErr_loc (right_at hr hx)
    simp only [pathL, hx] at h
    split at h
    · rename_i hm
      exact pathL_ok hr (nextP_lt hr hx hm) (after_ok hT hd ha) h
    · cases h
      exact ⟨hT, hp⟩
theorem fn67 (f : List Ins) (c : Cas) (hR : c.R.length = 8) (hf : fair f c = true) : FnOK Tryd.prog gidD 67 5 [.sl 2 0 f.length, caV 3 4 c] (hl [(0, .ro shapesV), (2, .ro (insCells f)), (3, .ro (nums c.H)), (4, .ro (nums c.A))])
    (.tup [.agg (sdC 5 6 (runC f c).2 (silB f c)), vi 0]) (hl [(5, .row 205 (evCells (runC f c).2.ev)), (6, .row 2 (nums (runC f c).2.out.heap))]) 7 := by
  refine FnOK.of ok67 (Nat.le_refl _) (by decide) fun M => ?_
  have h1 := fn114 f c hR hf
  have hf' := hf
  simp only [fair, Bool.and_eq_true] at hf'
  have hok := run_ok (A := c.A) hf'.1 c.fuel.toNat (t := trc0) (begin_ok hf'.1 hR hf'.2)
  have hP := fn115 f (runC f c).1.pc hf'.1 hok.pc
  have hS : silB f c = (decide ((runC f c).2.out.how = 0) && (pathE f (runC f c).1.pc).isNone) := rfl
  have hL : (runC f c).1.L.length = 24 := hok.len
  have hpc : (runC f c).1.pc < f.length := hok.pc
  clear hok
  generalize silB f c = sil at hS ⊢
  generalize runC f c = r at h1 hP hS hL hpc ⊢
  obtain ⟨⟨L, H2, pc, as2⟩, ⟨ev, ⟨how, value, oh⟩, st, wk⟩⟩ := r
  simp only at hL hS hP hpc
  obtain ⟨R, H, A, fuel⟩ := c
  simp only at hR
  obtain ⟨r0, r1, r2, r3, r4, r5, r6, r7, hRe⟩ := list8 hR
  obtain ⟨a0, a1, a2, a3, a4, a5, a6, a7, a8, a9, a10, a11, a12, a13, a14, a15, a16, a17, a18, a19, a20, a21, a22, a23, hLe⟩ := list24 hL
  unfold caV caC stV at h1
  unfold caV caC
  simp only at h1 ⊢
  rw [hRe] at h1 ⊢
  rw [hLe] at h1
  conv => whnf
  refine callX h1 [.old 0, .old 1, .old 2, .old 3, .old 4] rfl rfl rfl rfl ⟨rfl, rfl, rfl, rfl, trivial⟩ ?_
  conv => whnf
  cases hpe : pathE f pc with
  | none =>
    rw [hpe] at hS hP
    refine callX hP [.old 0, .old 1, .old 2] rfl rfl rfl rfl ⟨rfl, rfl, trivial⟩ ?_
    by_cases h0 : how = 0
    · obtain rfl : sil = true := by rw [hS]; simp [h0]
      subst h0
      conv => whnf
      exact retX [.old 0, .old 1, .old 2, .old 3, .old 4, .old 7, .old 8] (.inl rfl) rfl rfl rfl ⟨⟨_, rfl, rfl⟩, ⟨_, rfl, rfl⟩, trivial⟩
    · obtain rfl : sil = false := by rw [hS]; simp [h0]
      conv => whnf
      refine brT_false (decide_eq_false h0) ?_
      conv => whnf
      exact retX [.old 0, .old 1, .old 2, .old 3, .old 4, .old 7, .old 8] (.inl rfl) rfl rfl rfl ⟨⟨_, rfl, rfl⟩, ⟨_, rfl, rfl⟩, trivial⟩
  | some z =>
    obtain ⟨q, T, n⟩ := z
    rw [hpe] at hS hP
    obtain ⟨hT, hq⟩ := pathL_ok hf'.1 hpc newT_ok hpe
    obtain ⟨v0, v1, v2, v3, v4, v5, v6, v7, v8, v9, v10, v11, v12, v13, v14, v15, v16, v17, v18, v19, v20, v21, v22, v23, hTe⟩ := list24 (tabC_len hT.len)
    have hfw := tabFlat T
    rw [hTe] at hfw
    obtain rfl : sil = false := by rw [hS]; simp
    unfold pathR ptC at hP
    simp only at hP
    rw [hTe] at hP
    refine callX hP [.old 0, .old 1, .old 2] rfl rfl rfl rfl ⟨rfl, rfl, trivial⟩ ?_
    conv => whnf
    repeat (refine cndP_intro (by first | exact rfl | exact ptFlat _ _ hfw) ?_; conv => whnf)
    by_cases h0 : how = 0
    · refine brT_true (decide_eq_true h0) ?_
      conv => whnf
      exact retX [.old 0, .old 1, .old 2, .old 3, .old 4, .old 7, .old 8] (.inl rfl) rfl rfl rfl ⟨⟨_, rfl, rfl⟩, ⟨_, rfl, rfl⟩, trivial⟩
    · refine brT_false (decide_eq_false h0) ?_
      conv => whnf
      exact retX [.old 0, .old 1, .old 2, .old 3, .old 4, .old 7, .old 8] (.inl rfl) rfl rfl rfl ⟨⟨_, rfl, rfl⟩, ⟨_, rfl, rfl⟩, trivial⟩
theorem fn68v1 (t u : Trc) (p q : Bool) (ht : t.ev.length ≤ 1000000) (hu : u.ev.length ≤ 1000000) : FnOK Tryd.prog gidD 68 6 [.agg (sdC 2 3 t p), .agg (sdC 4 5 u q), .fn 69 []] (hl [(2, .ro (evCells t.ev)), (4, .ro (evCells u.ev))]) (vb (evLe t.ev u.ev || evLe u.ev t.ev)) (hl []) 6 := by
  refine FnOK.of ok68 (Nat.le_refl _) (Nat.le_refl _) fun M => ?_
  have h1 := (fn69 t u p q ht)
  have h2 := (fn69 u t q p hu)
  generalize evLe t.ev u.ev = b1 at h1 ⊢
  generalize evLe u.ev t.ev = b2 at h2 ⊢
  conv => whnf
  refine callX h1 [.old 0, .old 1, .old 2, .old 3, .old 4, .old 5] rfl rfl rfl rfl ⟨rfl, rfl, trivial⟩ ?_
  cases b1
  · conv => whnf
    refine callX h2 [.old 0, .old 1, .old 4, .old 5, .old 2, .old 3] rfl rfl rfl rfl ⟨rfl, rfl, trivial⟩ ?_
    conv => whnf
    exact retX [.old 0, .old 1, .old 2, .old 3, .old 4, .old 5] (.inl rfl) rfl rfl rfl trivial
  · conv => whnf
    exact retX [.old 0, .old 1, .old 2, .old 3, .old 4, .old 5] (.inl rfl) rfl rfl rfl trivial
theorem fn68v2 (t u : Trc) (p q : Bool) (ht : t.ev.length ≤ 1000000) (hu : u.ev.length ≤ 1000000) : FnOK Tryd.prog gidD 68 6 [.agg (sdC 2 3 t p), .agg (sdC 4 5 u q), .fn 71 []] (hl [(2, .ro (evCells t.ev)), (4, .ro (evCells u.ev))]) (vb ((halted t.out && !evLe u.ev t.ev) || (halted u.out && !evLe t.ev u.ev))) (hl []) 6 := by
  refine FnOK.of ok68 (Nat.le_refl _) (Nat.le_refl _) fun M => ?_
  have h1 := (fn71 t u p q hu)
  have h2 := (fn71 u t q p ht)
  generalize (halted t.out && !evLe u.ev t.ev) = b1 at h1 ⊢
  generalize (halted u.out && !evLe t.ev u.ev) = b2 at h2 ⊢
  conv => whnf
  refine callX h1 [.old 0, .old 1, .old 2, .old 3, .old 4, .old 5] rfl rfl rfl rfl ⟨rfl, rfl, trivial⟩ ?_
  cases b1
  · conv => whnf
    refine callX h2 [.old 0, .old 1, .old 4, .old 5, .old 2, .old 3] rfl rfl rfl rfl ⟨rfl, rfl, trivial⟩ ?_
    conv => whnf
    exact retX [.old 0, .old 1, .old 2, .old 3, .old 4, .old 5] (.inl rfl) rfl rfl rfl trivial
  · conv => whnf
    exact retX [.old 0, .old 1, .old 2, .old 3, .old 4, .old 5] (.inl rfl) rfl rfl rfl trivial
theorem fn68v3 (t u : Trc) (p q : Bool)  : FnOK Tryd.prog gidD 68 6 [.agg (sdC 2 3 t p), .agg (sdC 4 5 u q), .fn 74 []] (hl []) (vb ((halted t.out && q) || (halted u.out && p))) (hl []) 6 := by
  refine FnOK.of ok68 (Nat.le_refl _) (Nat.le_refl _) fun M => ?_
  have h1 := (fn74 t u p q)
  have h2 := (fn74 u t q p)
  generalize (halted t.out && q) = b1 at h1 ⊢
  generalize (halted u.out && p) = b2 at h2 ⊢
  conv => whnf
  refine callX h1 [.old 0, .old 1, .old 2, .old 3, .old 4, .old 5] rfl rfl rfl rfl trivial ?_
  cases b1
  · conv => whnf
    refine callX h2 [.old 0, .old 1, .old 4, .old 5, .old 2, .old 3] rfl rfl rfl rfl trivial ?_
    conv => whnf
    exact retX [.old 0, .old 1, .old 2, .old 3, .old 4, .old 5] (.inl rfl) rfl rfl rfl trivial
  · conv => whnf
    exact retX [.old 0, .old 1, .old 2, .old 3, .old 4, .old 5] (.inl rfl) rfl rfl rfl trivial
end Go.Abs
