/- Contracts: a step's call, and all that it does. -/
import Derived.Test.YtfeokfaccaenhaaDoorE22
set_option linter.unusedVariables false
set_option linter.unusedSimpArgs false
namespace Go.Abs
open Go.Proofs
set_option maxRecDepth 100000
set_option maxHeartbeats 1000000
def evCells (l : List Evn) : List Value := l.flatMap fun e => [i64 e.n, i64 e.arg, i64 e.ans]
/-- A step's work, before it has events. -/
def wkN (L : List (Bool × Int)) (hn : Nat) (pc asked : Int) (x : Ins) (an : Nat) (how value : Int) : List V := vals (wcells L) ++ [.sl 3 0 hn, vi pc, vi asked, vi x.op, vi x.d, vi x.a, vi x.b, vi x.n, vi x.to, .sl 4 0 an, nilV, vi how, vi value]
section
variable {L : List (Bool × Int)} {hn : Nat} {pc how value : Int} {x : Ins} (hL : L.length = 24)
include hL
theorem fn171n {A : List Int} {asked : Nat} (arg : Int) (ha : A[asked]? = none) : FnOK Tryd.prog gidD 171 5 [.ptr 2 0, vi arg] (hl [(2, .cel 272 (wkN L hn pc asked x A.length how value)), (4, .ro (nums A))]) (.tup [])
    (hl [(2, .cel 272 (wkC L hn pc asked x A.length (.sl 5 0 0) 5 value)), (5, .row 205 [])]) 6 := by
  refine FnOK.of ok171 (Nat.le_refl _) (by decide) fun M => ?_
  obtain ⟨a0, a1, a2, a3, a4, a5, a6, a7, a8, a9, a10, a11, a12, a13, a14, a15, a16, a17, a18, a19, a20, a21, a22, a23, hLe⟩ := list24 hL
  rw [hLe]
  have hge : A.length ≤ asked := by simpa using ha
  conv => whnf
  refine brT_true (decide_eq_true (by omega)) ?_
  conv => whnf
  repeat (refine cndP_intro (by first | omega | exact rfl | (show _ ≤ 61; omega)) ?_; conv => whnf)
  exact retX [.old 0, .old 1, .old 2, .old 3, .old 4, .nil] (.inl rfl) rfl rfl rfl ⟨⟨_, rfl, rfl⟩, rfl, trivial⟩
theorem fn171y {A : List Int} {asked : Nat} {v : Int} (arg : Int) (ha : A[asked]? = some v) (hA : A.length ≤ 1000000) (h0 : 0 ≤ x.d) (h1 : x.d < 24) : FnOK Tryd.prog gidD 171 5 [.ptr 2 0, vi arg] (hl [(2, .cel 272 (wkN L hn pc asked x A.length how value)), (4, .ro (nums A))]) (.tup [])
    (hl [(2, .cel 272 (wkC (L.set x.d.toNat (true, v)) hn pc ((asked + 1 : Nat) : Int) x A.length (.sl 5 0 1) 0 value)), (5, .row 205 (evCells [⟨x.n, arg, v⟩]))]) 6 := by
  refine FnOK.of ok171 (Nat.le_refl _) (by decide) fun M => ?_
  have hlt : asked < A.length := (List.getElem?_eq_some_iff.1 ha).1
  have hset := fn168v6 (hn := hn) (an := A.length) (en := 1) (pc := pc) (asked := ((asked + 1 : Nat) : Int)) (how := how) (value := value) hL v 0 h0 h1
  have hS : setL L x.d v 0 = L.set x.d.toNat (true, v) := if_pos rfl
  rw [hS] at hset
  have hL2 : (L.set x.d.toNat (true, v)).length = 24 := by rw [List.length_set]; exact hL
  obtain ⟨b0, b1, b2, b3, b4, b5, b6, b7, b8, b9, b10, b11, b12, b13, b14, b15, b16, b17, b18, b19, b20, b21, b22, b23, hLe2⟩ := list24 hL2
  rw [hLe2] at hset ⊢
  obtain ⟨a0, a1, a2, a3, a4, a5, a6, a7, a8, a9, a10, a11, a12, a13, a14, a15, a16, a17, a18, a19, a20, a21, a22, a23, hLe⟩ := list24 hL
  rw [hLe] at hset ⊢
  conv => whnf
  refine brT_false (decide_eq_false (by omega)) ?_
  conv => whnf
  repeat (refine cndP_intro (by first | omega | exact rfl | (show _ ≤ 61; omega)) ?_; conv => whnf)
  rw [numAt ha]
  conv => whnf
  repeat (refine cndP_intro (by first | omega | exact rfl | (show _ ≤ 61; omega)) ?_; conv => whnf)
  rw [w64i hlt (by omega)]
  refine callX hset [.old 0, .old 1, .old 2, .old 3, .old 4, .old 5] rfl rfl rfl rfl ⟨⟨_, rfl, rfl⟩, trivial⟩ ?_
  conv => whnf
  exact retX [.old 0, .old 1, .old 2, .old 3, .old 4, .old 5] (.inr rfl) rfl rfl rfl ⟨⟨_, rfl, rfl⟩, ⟨_, rfl, rfl⟩, trivial⟩
end
-- joinery/ins.Moves
def c125 : C := .seq (.reg none [1] [⟨some 1, none, .box 33 6 (.tmp 0)⟩, ⟨some 2, none, .mv (.const (.bool false))⟩]) (.seq (.reg none [2] [⟨some 3, none, .fa 0 (.tmp 1)⟩, ⟨some 4, none, .ld none (.tmp 3)⟩, ⟨some 5, none, .bin .eql (.tmp 4) (.const (.int .i64 1))⟩, ⟨some 6, none, .mv (.tmp 5)⟩, ⟨some 7, some (6, false), .fa 0 (.tmp 1)⟩, ⟨some 8, some (6, false), .ld none (.tmp 7)⟩, ⟨some 9, some (6, false), .bin .eql (.tmp 8) (.const (.int .i64 2))⟩, ⟨some 10, none, .pick (.tmp 6) (.const (.bool true)) (.tmp 9)⟩, ⟨some 11, none, .mv (.tmp 10)⟩, ⟨some 12, some (11, false), .fa 0 (.tmp 1)⟩, ⟨some 13, some (11, false), .ld none (.tmp 12)⟩, ⟨some 14, some (11, false), .bin .eql (.tmp 13) (.const (.int .i64 3))⟩, ⟨some 15, none, .pick (.tmp 11) (.const (.bool true)) (.tmp 14)⟩, ⟨some 16, none, .mv (.tmp 15)⟩, ⟨some 17, some (16, false), .fa 0 (.tmp 1)⟩, ⟨some 18, some (16, false), .ld none (.tmp 17)⟩, ⟨some 19, some (16, false), .bin .eql (.tmp 18) (.const (.int .i64 16))⟩, ⟨some 20, none, .pick (.tmp 16) (.const (.bool true)) (.tmp 19)⟩, ⟨some 2, none, .mv (.tmp 20)⟩]) (.ret))
theorem ok125 : tabOk Tryd.prog 125 c125 [.tmp 2] 1 = true := by kernel_rfl
-- joinery/ins.Uses
def c89 : C := .seq (.reg none [1] [⟨some 1, none, .box 33 6 (.tmp 0)⟩, ⟨some 2, none, .mv (.const (.slice none 0 0))⟩]) (.seq (.reg none [1, 3, 4] [⟨some 9, none, .fa 0 (.tmp 1)⟩, ⟨some 10, none, .ld none (.tmp 9)⟩, ⟨some 11, none, .call 107 [.tmp 10]⟩, ⟨some 8, none, .mv (.tmp 11)⟩, ⟨some 12, none, .ext (.tmp 8) 0⟩, ⟨some 13, none, .ext (.tmp 8) 1⟩, ⟨some 3, none, .new 184 [.string ⟨#[]⟩, .string ⟨#[]⟩]⟩, ⟨none, none, .st 2 (.tmp 3) (.tmp 12)⟩, ⟨some 4, none, .mv (.tmp 13)⟩]) (.seq (.seq (.reg none [1, 3, 19] [⟨some 14, none, .mv (.tmp 4)⟩, ⟨some 15, none, .un .not (.tmp 14)⟩, ⟨some 16, none, .mv (.tmp 15)⟩, ⟨some 17, some (16, false), .ld (some 6) (.tmp 1)⟩, ⟨some 18, some (16, false), .call 125 [.tmp 17]⟩, ⟨some 19, none, .pick (.tmp 16) (.const (.bool true)) (.tmp 18)⟩]) (.cond (.tmp 19) (.seq (.reg none [2] [⟨some 2, none, .mv (.const (.slice none 0 0))⟩]) (.ret)) (.skip))) (.seq (.reg none [1, 3, 5] [⟨some 5, none, .mv (.const (.slice none 0 0))⟩]) (.seq (.seq (.reg none [1, 5, 22] [⟨some 20, none, .fa 1 (.tmp 3)⟩, ⟨some 21, none, .ld none (.tmp 20)⟩, ⟨some 22, none, .rng (.tmp 21)⟩]) (.block 0 (.loop [1, 5, 22] (.seq (.reg none [1, 5, 22, 23, 24] [⟨some 23, none, .nxt (.tmp 22)⟩, ⟨some 24, none, .ext (.tmp 23) 0⟩]) (.seq (.cond (.tmp 24) (.skip) (.exit 0)) (.block 1 (.seq (.reg none [1, 5, 7, 22] [⟨some 25, none, .ext (.tmp 23) 2⟩, ⟨some 7, none, .mv (.tmp 25)⟩]) (.seq (.reg none [1, 5, 7, 22, 31] [⟨some 26, none, .mv (.tmp 7)⟩, ⟨some 27, none, .bin .eql (.tmp 26) (.const (.int .i32 65))⟩, ⟨some 28, none, .mv (.tmp 27)⟩, ⟨some 29, some (28, false), .mv (.tmp 7)⟩, ⟨some 30, some (28, false), .bin .eql (.tmp 29) (.const (.int .i32 66))⟩, ⟨some 31, none, .pick (.tmp 28) (.const (.bool true)) (.tmp 30)⟩]) (.cond (.tmp 31) (.reg none [1, 5, 22] [⟨some 32, none, .mv (.tmp 5)⟩, ⟨some 33, none, .mv (.tmp 7)⟩, ⟨some 34, none, .call 109 [.tmp 1, .tmp 33]⟩, ⟨some 35, none, .nilc (.tmp 34)⟩, ⟨some 36, none, .ld none (.tmp 35)⟩, ⟨some 37, none, .bsl 3 1 1 [.int .i64 0] [(0, 0, 1, .tmp 36)]⟩, ⟨some 38, none, .app 3 1 (.tmp 32) (.tmp 37)⟩, ⟨some 5, none, .mv (.tmp 38)⟩]) (.skip)))))))))) (.seq (.reg none [2] [⟨some 39, none, .mv (.tmp 5)⟩, ⟨some 2, none, .mv (.tmp 39)⟩]) (.ret))))))
theorem ok89 : tabOk Tryd.prog 89 c89 [.tmp 2] 1 = true := by kernel_rfl
theorem fn125 (x : Ins) : FnOK Tryd.prog gidD 125 2 [x.v] (hl []) (vb (movesI x)) (hl []) 2 := by
  refine FnOK.of ok125 (Nat.le_refl _) (Nat.le_refl _) fun M => ?_
  conv => whnf
  repeat' ((first | refine brD_intro (fun h => ?_) (fun h => ?_) | refine brT_intro (fun h => ?_) (fun h => ?_)) <;> conv => whnf)
  all_goals exact retX [.old 0, .old 1] (.inl rfl) rfl (congrArg (fun b => some (vb b)) (by simp_all [movesI])) rfl trivial
theorem fn89 (x : Ins) (h1 : 1 ≤ x.op) (h2 : x.op ≤ 18) : FnOK Tryd.prog gidD 89 2 [x.v] (hl [(0, .ro shapesV)]) (.sl 2 0 (usesI x).length) (hl [(2, .row 3 (nums (usesI x)))]) 3 := by
  refine FnOK.of ok89 (Nat.le_refl _) (by decide) fun M => ?_
  obtain ⟨op, d, a, b, m, to⟩ := x
  have ho := fn107 op
  rcases op_cases op with h | h | rfl | rfl | rfl | rfl | rfl | rfl | rfl | rfl | rfl | rfl | rfl | rfl | rfl | rfl | rfl | rfl | rfl | rfl
  · simp only at h1; omega
  · simp only at h2; omega
  all_goals
    conv => whnf
    refine callX ho [.old 0, .old 1] rfl rfl rfl rfl ⟨rfl, trivial⟩ ?_
    conv => whnf
    refine callX (fn125 ⟨_, d, a, b, m, to⟩) [.old 0, .old 1] rfl rfl rfl rfl trivial ?_
    conv => whnf
  all_goals first
    | exact retX [.old 0, .old 1, .nil] (.inl rfl) rfl rfl rfl ⟨rfl, trivial⟩
    | skip
  all_goals
    repeat' first
      | exact retX [.old 0, .old 1, .old _] (.inl rfl) rfl rfl rfl ⟨⟨_, rfl, rfl⟩, trivial⟩
      | (refine LoopS.round rfl ?_; conv => whnf)
      | (refine callX (fn109 (by decide)) [.old 0, .old 1, .old _] rfl rfl rfl rfl trivial ?_; conv => whnf)
end Go.Abs
