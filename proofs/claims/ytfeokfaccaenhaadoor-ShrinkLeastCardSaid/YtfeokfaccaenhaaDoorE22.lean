/- Contracts: a step's helpers. -/
import Derived.Test.YtfeokfaccaenhaaDoorE20
import Derived.Test.YtfeokfaccaenhaaDoorE21
set_option linter.unusedVariables false
set_option linter.unusedSimpArgs false
namespace Go.Abs
open Go.Proofs
set_option maxRecDepth 100000
set_option maxHeartbeats 1000000
def wcells (L : List (Bool × Int)) : List Value := L.flatMap fun w => [.bool w.1, i64 w.2]
theorem list24 {α : Type} {L : List α} (h : L.length = 24) : ∃ a0 a1 a2 a3 a4 a5 a6 a7 a8 a9 a10 a11 a12 a13 a14 a15 a16 a17 a18 a19 a20 a21 a22 a23, L = [a0, a1, a2, a3, a4, a5, a6, a7, a8, a9, a10, a11, a12, a13, a14, a15, a16, a17, a18, a19, a20, a21, a22, a23] := by
  match L, h with
  | [a0, a1, a2, a3, a4, a5, a6, a7, a8, a9, a10, a11, a12, a13, a14, a15, a16, a17, a18, a19, a20, a21, a22, a23], _ => exact ⟨_, _, _, _, _, _, _, _, _, _, _, _, _, _, _, _, _, _, _, _, _, _, _, _, rfl⟩
theorem rnL_app {l : List Src} {R R' : List V} (h : rnL l R = some R') : ∀ (xs : List Value), rnL l (vals xs ++ R) = some (vals xs ++ R')
  | [] => h
  | x :: xs => by
    show rnL l (V.val x :: (vals xs ++ R)) = _
    rw [rnL]
    simp only [rnV, rnL_app h xs]
    rfl
theorem fwL_app {σ : Nat → Option Nat} {R R' : List V} (h : fwL' σ R = some R') : ∀ (xs : List Value), fwL' σ (vals xs ++ R) = some (vals xs ++ R')
  | [] => h
  | x :: xs => by
    show fwL' σ (V.val x :: (vals xs ++ R)) = _
    rw [fwL']
    simp only [fwV, fwL_app h xs]
    rfl
theorem rnA {l : List Src} {R R' : List V} (h : rnL l R = some R') (xs : List Value) : rnV l (.agg (vals xs ++ R)) = some (.agg (vals xs ++ R')) := by
  rw [rnV, rnL_app h xs]
theorem wcells_len (L : List (Bool × Int)) : (wcells L).length = 2 * L.length := by
  induction L with
  | nil => rfl
  | cons w L ih => simp [wcells] at ih ⊢; omega
theorem wcells_at : ∀ {L : List (Bool × Int)} {i : Nat} {w : Bool × Int}, L[i]? = some w → (wcells L)[i * 2]? = some (.bool w.1) ∧ (wcells L)[i * 2 + 1]? = some (i64 w.2)
  | [], i, w, h => by simp at h
  | u :: L, 0, w, h => by simp at h; subst h; exact ⟨rfl, rfl⟩
  | u :: L, i + 1, w, h => by
    have := wcells_at (L := L) (i := i) (by simpa using h)
    have e : wcells (u :: L) = .bool u.1 :: i64 u.2 :: wcells L := rfl
    rw [e, show (i + 1) * 2 = i * 2 + 1 + 1 by omega, show i * 2 + 1 + 1 + 1 = (i * 2 + 1) + 1 + 1 by omega]
    simpa using this
theorem wcells_set : ∀ {L : List (Bool × Int)} {i : Nat} {w : Bool × Int}, i < L.length → wcells (L.set i w) = (wcells L).take (i * 2) ++ [.bool w.1, i64 w.2] ++ (wcells L).drop (i * 2 + 2)
  | [], i, w, h => by simp at h
  | u :: L, 0, w, h => rfl
  | u :: L, i + 1, w, h => by
    have := wcells_set (L := L) (i := i) (w := w) (by simpa using h)
    have e : ∀ (u : Bool × Int) L, wcells (u :: L) = .bool u.1 :: i64 u.2 :: wcells L := fun _ _ => rfl
    rw [List.set_cons_succ, e, e, this, show (i + 1) * 2 = i * 2 + 1 + 1 by omega, show i * 2 + 1 + 1 + 2 = (i * 2 + 2) + 1 + 1 by omega]
    simp
/-- A place's word in a row that begins with the words. -/
theorem wAt {L : List (Bool × Int)} (hL : L.length = 24) {l : Int} (h0 : 0 ≤ l) (h1 : l < 24) (R : List V) {o : Nat} (ho : o = l.toNat * 2) : (vals (wcells L) ++ R)[o]? = some (vb (getW L l).1) ∧ (vals (wcells L) ++ R)[o + 1]? = some (vi (getW L l).2) := by
  subst ho
  obtain ⟨a1, a2⟩ := wcells_at (getW_mem hL h0 h1).2
  have hl : (wcells L).length = 48 := by rw [wcells_len, hL]
  refine ⟨?_, ?_⟩
  · rw [List.getElem?_append_left (by rw [vals_length]; omega)]; simp [vals, a1]
  · rw [List.getElem?_append_left (by rw [vals_length]; omega)]; simp [vals, a2]
theorem wSet {L : List (Bool × Int)} (hL : L.length = 24) {l : Int} (h0 : 0 ≤ l) (h1 : l < 24) (R : List V) {o : Nat} (ho : o = l.toNat * 2) (w : Bool × Int) :
    (vals (wcells L) ++ R).take o ++ [vb w.1, vi w.2] ++ (vals (wcells L) ++ R).drop (o + 2) = vals (wcells (L.set l.toNat w)) ++ R := by
  subst ho
  have hl : (vals (wcells L)).length = 48 := by rw [vals_length, wcells_len, hL]
  rw [wcells_set (by omega), List.take_append_of_le_length (by omega), List.drop_append_of_le_length (by omega)]
  simp [vals, List.map_take, List.map_drop]
def wkR (hn : Nat) (pc asked : Int) (x : Ins) (an : Nat) (e : V) (how value : Int) : List V := [.sl 3 0 hn, vi pc, vi asked, vi x.op, vi x.d, vi x.a, vi x.b, vi x.n, vi x.to, .sl 4 0 an, e, vi how, vi value]
def wkC (L : List (Bool × Int)) (hn : Nat) (pc asked : Int) (x : Ins) (an : Nat) (e : V) (how value : Int) : List V := vals (wcells L) ++ wkR hn pc asked x an e how value
def nilV : V := .val (.slice none 0 0)
-- (*joinery/step.work).number
def c167 : C := .seq (.reg none [0, 1] [⟨some 4, none, .mv (.const (.int .i64 0))⟩]) (.seq (.reg none [4] [⟨some 5, none, .mv (.tmp 0)⟩, ⟨some 6, none, .mv (.tmp 1)⟩, ⟨some 7, none, .nilc (.tmp 5)⟩, ⟨some 8, none, .fa 0 (.tmp 7)⟩, ⟨some 9, none, .fa 0 (.tmp 8)⟩, ⟨some 10, none, .iaa 24 2 (.tmp 9) (.tmp 6)⟩, ⟨some 11, none, .fa 1 (.tmp 10)⟩, ⟨some 12, none, .ld none (.tmp 11)⟩, ⟨some 4, none, .mv (.tmp 12)⟩]) (.ret))
theorem ok167 : tabOk Tryd.prog 167 c167 [.tmp 4] 2 = true := by kernel_rfl
-- (*joinery/step.work).set
def c168 : C := .seq (.reg none [0, 1, 2] [⟨some 6, none, .mv (.tmp 0)⟩, ⟨some 7, none, .mv (.tmp 2)⟩, ⟨some 8, none, .nilc (.tmp 6)⟩, ⟨some 9, none, .fa 59 (.tmp 8)⟩, ⟨none, none, .st 1 (.tmp 9) (.tmp 7)⟩]) (.seq (.reg none [0, 1, 11] [⟨some 10, none, .mv (.tmp 2)⟩, ⟨some 11, none, .bin .eql (.tmp 10) (.const (.int .i64 0))⟩]) (.cond (.tmp 11) (.reg (some [[], [0], [0], [0], [0], [0], [0, 1, 2, 3, 4, 5], [0, 1, 2, 3, 4, 5], [1, 2, 3, 4, 5, 6, 7], [1, 2, 3, 4, 5, 6, 7], [1, 2, 3, 4, 5, 6, 7], [], []]) [] [⟨some 12, none, .mv (.tmp 0)⟩, ⟨some 13, none, .mv (.tmp 0)⟩, ⟨some 14, none, .nilc (.tmp 13)⟩, ⟨some 15, none, .fa 51 (.tmp 14)⟩, ⟨some 16, none, .fa 1 (.tmp 15)⟩, ⟨some 17, none, .ld none (.tmp 16)⟩, ⟨some 18, none, .mv (.tmp 1)⟩, ⟨some 19, none, .bld 194 [.bool false, .int .i64 0] [(0, 0, 1, .const (.bool true)), (1, 1, 1, .tmp 18)]⟩, ⟨some 20, none, .nilc (.tmp 12)⟩, ⟨some 21, none, .fa 0 (.tmp 20)⟩, ⟨some 22, none, .fa 0 (.tmp 21)⟩, ⟨some 23, none, .iaa 24 2 (.tmp 22) (.tmp 17)⟩, ⟨none, none, .st 2 (.tmp 23) (.tmp 19)⟩]) (.skip)))
theorem ok168 : tabOk Tryd.prog 168 c168 [] 3 = true := by kernel_rfl
-- (*joinery/step.work).move
def c173 : C := .seq (.reg none [0, 2] [⟨some 3, none, .mv (.tmp 0)⟩, ⟨some 4, none, .nilc (.tmp 3)⟩, ⟨some 5, none, .fa 0 (.tmp 4)⟩, ⟨some 6, none, .fa 0 (.tmp 5)⟩, ⟨some 2, none, .mv (.tmp 6)⟩]) (.seq (.reg none [0, 2, 11] [⟨some 7, none, .mv (.tmp 0)⟩, ⟨some 8, none, .nilc (.tmp 7)⟩, ⟨some 9, none, .fa 51 (.tmp 8)⟩, ⟨some 10, none, .fa 0 (.tmp 9)⟩, ⟨some 11, none, .ld none (.tmp 10)⟩]) (.block 0 (.seq (.reg none [0, 2, 11, 12] [⟨some 13, none, .bin .eql (.tmp 11) (.const (.int .i64 1))⟩, ⟨some 12, none, .mv (.tmp 13)⟩]) (.cond (.tmp 12) (.reg (some [[], [0], [0], [0], [0], [0], [0, 1, 2, 3, 4, 5], [0, 1, 2, 3, 4, 5], [0, 1, 2, 3, 4, 5], [0, 1, 2, 3, 4, 5], [0, 1, 2, 3, 4, 5], [0, 1, 2, 3, 4, 5], [1, 2, 3, 4, 5, 6, 7, 8, 9, 10, 11], [], []]) [] [⟨some 14, none, .mv (.tmp 2)⟩, ⟨some 15, none, .mv (.tmp 0)⟩, ⟨some 16, none, .nilc (.tmp 15)⟩, ⟨some 17, none, .fa 51 (.tmp 16)⟩, ⟨some 18, none, .fa 1 (.tmp 17)⟩, ⟨some 19, none, .ld none (.tmp 18)⟩, ⟨some 20, none, .mv (.tmp 0)⟩, ⟨some 21, none, .nilc (.tmp 20)⟩, ⟨some 22, none, .fa 51 (.tmp 21)⟩, ⟨some 23, none, .fa 4 (.tmp 22)⟩, ⟨some 24, none, .ld none (.tmp 23)⟩, ⟨some 25, none, .bld 194 [.bool false, .int .i64 0] [(0, 0, 1, .const (.bool true)), (1, 1, 1, .tmp 24)]⟩, ⟨some 26, none, .nilc (.tmp 14)⟩, ⟨some 27, none, .iaa 24 2 (.tmp 26) (.tmp 19)⟩, ⟨none, none, .st 2 (.tmp 27) (.tmp 25)⟩]) (.seq (.reg none [0, 2, 11, 28] [⟨some 29, none, .bin .eql (.tmp 11) (.const (.int .i64 2))⟩, ⟨some 28, none, .mv (.tmp 29)⟩]) (.cond (.tmp 28) (.reg (some [[], [0], [0], [0], [0], [0], [0, 1, 2, 3, 4, 5], [0, 1, 2, 3, 4, 5, 6], [0, 1, 2, 3, 4, 5, 6], [0, 1, 2, 3, 4, 5, 6], [0, 1, 2, 3, 4, 5, 6], [0, 1, 2, 3, 4, 5, 6], [0, 1, 2, 3, 4, 5, 7, 8, 9, 10, 11], [0, 1, 2, 3, 4, 5], [0, 1, 2, 3, 4, 5], [1, 2, 3, 4, 5, 6, 7, 8, 9, 10, 11, 12, 13, 14], [], []]) [] [⟨some 30, none, .mv (.tmp 2)⟩, ⟨some 31, none, .mv (.tmp 0)⟩, ⟨some 32, none, .nilc (.tmp 31)⟩, ⟨some 33, none, .fa 51 (.tmp 32)⟩, ⟨some 34, none, .fa 1 (.tmp 33)⟩, ⟨some 35, none, .ld none (.tmp 34)⟩, ⟨some 36, none, .mv (.tmp 2)⟩, ⟨some 37, none, .mv (.tmp 0)⟩, ⟨some 38, none, .nilc (.tmp 37)⟩, ⟨some 39, none, .fa 51 (.tmp 38)⟩, ⟨some 40, none, .fa 2 (.tmp 39)⟩, ⟨some 41, none, .ld none (.tmp 40)⟩, ⟨some 42, none, .nilc (.tmp 36)⟩, ⟨some 43, none, .iaa 24 2 (.tmp 42) (.tmp 41)⟩, ⟨some 44, none, .ld (some 2) (.tmp 43)⟩, ⟨some 45, none, .nilc (.tmp 30)⟩, ⟨some 46, none, .iaa 24 2 (.tmp 45) (.tmp 35)⟩, ⟨none, none, .st 2 (.tmp 46) (.tmp 44)⟩]) (.seq (.reg none [0, 2, 47] [⟨some 48, none, .bin .eql (.tmp 11) (.const (.int .i64 3))⟩, ⟨some 47, none, .mv (.tmp 48)⟩]) (.cond (.tmp 47) (.reg (some [[], [0], [0], [0], [0], [0], [0, 1, 2, 3, 4, 5], [0, 1, 2, 3, 4, 5, 6], [0, 1, 2, 3, 4, 5, 6], [0, 1, 2, 3, 4, 5, 6], [0, 1, 2, 3, 4, 5, 6], [0, 1, 2, 3, 4, 5, 6], [0, 1, 2, 3, 4, 5, 6, 7, 8, 9, 10, 11], [0, 1, 2, 3, 4, 5, 6, 7, 8, 9, 10, 11, 12], [0, 1, 2, 3, 4, 5, 6, 7, 8, 9, 10, 11, 12], [0, 1, 2, 3, 4, 5, 6, 7, 8, 9, 10, 11, 12], [0, 1, 2, 3, 4, 5, 6, 7, 8, 9, 10, 11, 12], [0, 1, 2, 3, 4, 5, 6, 7, 8, 9, 10, 11, 12], [0, 1, 2, 3, 4, 5, 6, 7, 8, 9, 10, 11, 13, 14, 15, 16, 17], [0, 1, 2, 3, 4, 5, 6, 7, 8, 9, 10, 11], [0, 1, 2, 3, 4, 5, 6, 7, 8, 9, 10, 11], [0, 1, 2, 3, 4, 5, 6, 7, 8, 9, 10, 11, 12, 13, 14, 15, 16, 17, 18, 19, 20], [0, 1, 2, 3, 4, 5, 6, 7, 8, 9, 10, 11, 12, 13, 14, 15, 16, 17, 18, 19, 20, 21], [0, 1, 2, 3, 4, 5, 6, 7, 8, 9, 10, 11, 12, 13, 14, 15, 16, 17, 18, 19, 20, 21], [0, 1, 2, 3, 4, 5, 6, 7, 8, 9, 10, 11, 12, 13, 14, 15, 16, 17, 18, 19, 20, 21], [0, 1, 2, 3, 4, 5, 6, 7, 8, 9, 10, 11, 12, 13, 14, 15, 16, 17, 18, 19, 20, 21], [0, 1, 2, 3, 4, 5, 6, 7, 8, 9, 10, 11, 12, 13, 14, 15, 16, 17, 18, 19, 20, 21], [0, 1, 2, 3, 4, 5, 6, 7, 8, 9, 10, 11, 12, 13, 14, 15, 16, 17, 18, 19, 20, 22, 23, 24, 25, 26], [0, 1, 2, 3, 4, 5, 6, 7, 8, 9, 10, 11, 12, 13, 14, 15, 16, 17, 18, 19, 20], [0, 1, 2, 3, 4, 5, 6, 7, 8, 9, 10, 11, 12, 13, 14, 15, 16, 17, 18, 19, 20], [1, 2, 3, 4, 5, 6, 7, 8, 9, 10, 11, 12, 13, 14, 15, 16, 17, 18, 19, 20, 21, 22, 23, 24, 25, 26, 27, 28, 29], [6], [6], [0, 1, 2, 3, 4, 5, 7, 8, 9, 10, 11, 12, 13, 14, 15, 16, 17, 18, 19, 20, 21, 22, 23, 24, 25, 26, 27, 28, 29, 30, 31, 32], [], []]) [] [⟨some 49, none, .mv (.tmp 2)⟩, ⟨some 50, none, .mv (.tmp 0)⟩, ⟨some 51, none, .nilc (.tmp 50)⟩, ⟨some 52, none, .fa 51 (.tmp 51)⟩, ⟨some 53, none, .fa 1 (.tmp 52)⟩, ⟨some 54, none, .ld none (.tmp 53)⟩, ⟨some 55, none, .mv (.tmp 2)⟩, ⟨some 56, none, .mv (.tmp 0)⟩, ⟨some 57, none, .nilc (.tmp 56)⟩, ⟨some 58, none, .fa 51 (.tmp 57)⟩, ⟨some 59, none, .fa 2 (.tmp 58)⟩, ⟨some 60, none, .ld none (.tmp 59)⟩, ⟨some 61, none, .mv (.tmp 2)⟩, ⟨some 62, none, .mv (.tmp 0)⟩, ⟨some 63, none, .nilc (.tmp 62)⟩, ⟨some 64, none, .fa 51 (.tmp 63)⟩, ⟨some 65, none, .fa 2 (.tmp 64)⟩, ⟨some 66, none, .ld none (.tmp 65)⟩, ⟨some 67, none, .nilc (.tmp 61)⟩, ⟨some 68, none, .iaa 24 2 (.tmp 67) (.tmp 66)⟩, ⟨some 69, none, .ld (some 2) (.tmp 68)⟩, ⟨some 70, none, .mv (.tmp 2)⟩, ⟨some 71, none, .mv (.tmp 0)⟩, ⟨some 72, none, .nilc (.tmp 71)⟩, ⟨some 73, none, .fa 51 (.tmp 72)⟩, ⟨some 74, none, .fa 1 (.tmp 73)⟩, ⟨some 75, none, .ld none (.tmp 74)⟩, ⟨some 76, none, .nilc (.tmp 70)⟩, ⟨some 77, none, .iaa 24 2 (.tmp 76) (.tmp 75)⟩, ⟨some 78, none, .ld (some 2) (.tmp 77)⟩, ⟨some 79, none, .nilc (.tmp 49)⟩, ⟨some 80, none, .iaa 24 2 (.tmp 79) (.tmp 54)⟩, ⟨none, none, .st 2 (.tmp 80) (.tmp 69)⟩, ⟨some 81, none, .nilc (.tmp 55)⟩, ⟨some 82, none, .iaa 24 2 (.tmp 81) (.tmp 60)⟩, ⟨none, none, .st 2 (.tmp 82) (.tmp 78)⟩]) (.skip)))))))))
theorem ok173 : tabOk Tryd.prog 173 c173 [] 1 = true := by kernel_rfl
-- (*joinery/step.work).call
def c171 : C := .seq (.seq (.reg (some [[], [], [], [], [], [0, 1, 2, 3, 4], [0, 1, 2, 3, 4], [0, 1, 2, 3, 4], [0, 1, 2, 3, 4], [0, 1, 2, 3, 4], []]) [0, 1, 15] [⟨some 5, none, .mv (.tmp 0)⟩, ⟨some 6, none, .nilc (.tmp 5)⟩, ⟨some 7, none, .fa 0 (.tmp 6)⟩, ⟨some 8, none, .fa 50 (.tmp 7)⟩, ⟨some 9, none, .ld none (.tmp 8)⟩, ⟨some 10, none, .mv (.tmp 0)⟩, ⟨some 11, none, .nilc (.tmp 10)⟩, ⟨some 12, none, .fa 57 (.tmp 11)⟩, ⟨some 13, none, .ld none (.tmp 12)⟩, ⟨some 14, none, .len (.tmp 13)⟩, ⟨some 15, none, .bin .geq (.tmp 9) (.tmp 14)⟩]) (.cond (.tmp 15) (.seq (.reg none [] [⟨some 16, none, .mv (.tmp 0)⟩, ⟨some 17, none, .nilc (.tmp 16)⟩, ⟨some 18, none, .fa 59 (.tmp 17)⟩, ⟨none, none, .st 1 (.tmp 18) (.const (.int .i64 5))⟩]) (.ret)) (.skip))) (.seq (.reg (some [[], [], [], [], [0, 1, 2, 3], [0, 1, 2, 3], [0, 1, 2, 3], [0, 1, 2, 3], [0, 1, 2, 3], [], [], []]) [0, 1, 4] [⟨some 19, none, .mv (.tmp 0)⟩, ⟨some 20, none, .nilc (.tmp 19)⟩, ⟨some 21, none, .fa 57 (.tmp 20)⟩, ⟨some 22, none, .ld none (.tmp 21)⟩, ⟨some 23, none, .mv (.tmp 0)⟩, ⟨some 24, none, .nilc (.tmp 23)⟩, ⟨some 25, none, .fa 0 (.tmp 24)⟩, ⟨some 26, none, .fa 50 (.tmp 25)⟩, ⟨some 27, none, .ld none (.tmp 26)⟩, ⟨some 28, none, .ia 1 (.tmp 22) (.tmp 27)⟩, ⟨some 29, none, .ld none (.tmp 28)⟩, ⟨some 4, none, .mv (.tmp 29)⟩]) (.seq (.reg none [0, 4] [⟨some 30, none, .mv (.tmp 0)⟩, ⟨some 31, none, .mv (.tmp 0)⟩, ⟨some 32, none, .nilc (.tmp 31)⟩, ⟨some 33, none, .fa 51 (.tmp 32)⟩, ⟨some 34, none, .fa 4 (.tmp 33)⟩, ⟨some 35, none, .ld none (.tmp 34)⟩, ⟨some 36, none, .mv (.tmp 1)⟩, ⟨some 37, none, .mv (.tmp 4)⟩, ⟨some 38, none, .bld 205 [.int .i64 0, .int .i64 0, .int .i64 0] [(0, 0, 1, .tmp 35), (1, 1, 1, .tmp 36), (2, 2, 1, .tmp 37)]⟩, ⟨some 39, none, .bsl 205 1 3 [.int .i64 0, .int .i64 0, .int .i64 0] [(0, 0, 3, .tmp 38)]⟩, ⟨some 40, none, .nilc (.tmp 30)⟩, ⟨some 41, none, .fa 58 (.tmp 40)⟩, ⟨none, none, .st 1 (.tmp 41) (.tmp 39)⟩]) (.seq (.reg none [0, 4] [⟨some 42, none, .mv (.tmp 0)⟩, ⟨some 43, none, .nilc (.tmp 42)⟩, ⟨some 44, none, .fa 0 (.tmp 43)⟩, ⟨some 45, none, .fa 50 (.tmp 44)⟩, ⟨some 46, none, .ld none (.tmp 45)⟩, ⟨some 47, none, .bin .add (.tmp 46) (.const (.int .i64 1))⟩, ⟨some 48, none, .nilc (.tmp 42)⟩, ⟨some 49, none, .fa 0 (.tmp 48)⟩, ⟨some 50, none, .fa 50 (.tmp 49)⟩, ⟨none, none, .st 1 (.tmp 50) (.tmp 47)⟩]) (.reg none [] [⟨some 51, none, .mv (.tmp 0)⟩, ⟨some 52, none, .mv (.tmp 4)⟩, ⟨some 53, none, .call 168 [.tmp 51, .tmp 52, .const (.int .i64 0)]⟩]))))
theorem ok171 : tabOk Tryd.prog 171 c171 [] 2 = true := by kernel_rfl
def setL (L : List (Bool × Int)) (l v h : Int) : List (Bool × Int) := if h = 0 then L.set l.toNat (true, v) else L
def moveL (x : Ins) (L : List (Bool × Int)) : List (Bool × Int) := if x.op = 1 then L.set x.d.toNat (true, x.n) else if x.op = 2 then L.set x.d.toNat (getW L x.a) else if x.op = 3 then (L.set x.d.toNat (getW L x.a)).set x.a.toNat (getW L x.d) else L
theorem wTake {L : List (Bool × Int)} (hL : L.length = 24) {l : Int} (h0 : 0 ≤ l) (h1 : l < 24) (R : List V) {o : Nat} (ho : o = l.toNat * 2) : ((vals (wcells L) ++ R).drop o).take 2 = [vb (getW L l).1, vi (getW L l).2] := by
  obtain ⟨a1, a2⟩ := wAt hL h0 h1 R ho
  rw [drop_cons a1, drop_cons a2]
  rfl
theorem wkLen {L : List (Bool × Int)} {hn an : Nat} {pc asked how value : Int} {x : Ins} {e : V} (hL : L.length = 24) : (wkC L hn pc asked x an e how value).length = 61 := by
  unfold wkC wkR
  rw [List.length_append, vals_length, wcells_len, hL]
  rfl
section
variable {L : List (Bool × Int)} {hn an : Nat} {pc asked how value : Int} {x : Ins} (hL : L.length = 24)
include hL
theorem fn167v5 {l : Int} (h0 : 0 ≤ l) (h1 : l < 24) : FnOK Tryd.prog gidD 167 5 [.ptr 2 0, vi l] (hl [(2, .cel 272 (wkC L hn pc asked x an nilV how value))]) (vi (getW L l).2) (hl [(2, .cel 272 (wkC L hn pc asked x an nilV how value))]) 5 := by
  refine FnOK.of ok167 (Nat.le_refl _) (Nat.le_refl _) fun M => ?_
  conv => whnf
  repeat (refine cndP_intro (by omega) ?_; conv => whnf)
  rw [show (wkC L hn pc asked x an nilV how value)[0 + 0 + 0 + l.toNat * 2 + 1]? = some (vi (getW L l).2) from (wAt hL h0 h1 _ (by omega)).2]
  conv => whnf
  exact retX [.old 0, .old 1, .old 2, .old 3, .old 4] (.inl rfl) rfl rfl rfl ⟨⟨_, rfl, rnL_app rfl _⟩, trivial⟩
theorem fn168v5 (v hh : Int) (h0 : 0 ≤ x.d) (h1 : x.d < 24) : FnOK Tryd.prog gidD 168 5 [.ptr 2 0, vi v, vi hh] (hl [(2, .cel 272 (wkC L hn pc asked x an nilV how value))]) (.tup []) (hl [(2, .cel 272 (wkC (setL L x.d v hh) hn pc asked x an nilV hh value))]) 5 := by
  refine FnOK.of ok168 (Nat.le_refl _) (Nat.le_refl _) fun M => ?_
  have hL' := hL
  obtain ⟨a0, a1, a2, a3, a4, a5, a6, a7, a8, a9, a10, a11, a12, a13, a14, a15, a16, a17, a18, a19, a20, a21, a22, a23, hLe⟩ := list24 hL
  conv => whnf
  rw [hLe]
  conv => whnf
  refine brD_intro (fun h => ?_) (fun h => ?_) <;> conv => whnf
  · repeat (refine cndP_intro (by first | omega | exact rfl | (show _ ≤ 61; omega)) ?_; conv => whnf)
    have hS : ∀ L, setL L x.d v hh = L.set x.d.toNat (true, v) := fun L => if_pos h
    rw [hS]
    refine retX [.old 0, .old 1, .old 2, .old 3, .old 4] (.inr rfl) rfl rfl rfl ⟨⟨_, rfl, ?_⟩, trivial⟩
    rw [hLe] at hL
    exact (rnL_app rfl _).trans (congrArg some (wSet hL h0 h1 (wkR hn pc asked x an nilV hh value) (o := 0 + 0 + 0 + x.d.toNat * 2) (by omega) (true, v)).symm)
  · have hS : ∀ L, setL L x.d v hh = L := fun L => if_neg h
    rw [hS]
    exact retX [.old 0, .old 1, .old 2, .old 3, .old 4] (.inr rfl) rfl rfl rfl ⟨⟨_, rfl, rfl⟩, trivial⟩
theorem fn173v5 (hd0 : 0 ≤ x.d) (hd1 : x.d < 24) (ha0 : 0 ≤ x.a) (ha1 : x.a < 24) : FnOK Tryd.prog gidD 173 5 [.ptr 2 0] (hl [(2, .cel 272 (wkC L hn pc asked x an nilV how value))]) (.tup []) (hl [(2, .cel 272 (wkC (moveL x L) hn pc asked x an nilV how value))]) 5 := by
  refine FnOK.of ok173 (Nat.le_refl _) (Nat.le_refl _) fun M => ?_
  obtain ⟨a0, a1, a2, a3, a4, a5, a6, a7, a8, a9, a10, a11, a12, a13, a14, a15, a16, a17, a18, a19, a20, a21, a22, a23, hLe⟩ := list24 hL
  conv => whnf
  rw [hLe]
  conv => whnf
  rw [hLe] at hL
  refine brD_intro (fun h => ?_) (fun h1 => ?_) <;> conv => whnf
  · repeat (refine cndP_intro (by first | omega | exact rfl | (show _ ≤ 61; omega)) ?_; conv => whnf)
    have hS : ∀ L, moveL x L = L.set x.d.toNat (true, x.n) := fun L => if_pos h
    rw [hS]
    refine retX [.old 0, .old 1, .old 2, .old 3, .old 4] (.inr rfl) rfl rfl rfl ⟨⟨_, rfl, ?_⟩, trivial⟩
    exact (rnL_app rfl _).trans (congrArg some (wSet hL hd0 hd1 (wkR hn pc asked x an nilV how value) (o := 0 + 0 + 0 + x.d.toNat * 2) (by omega) (true, x.n)).symm)
  refine brD_intro (fun h => ?_) (fun h2 => ?_) <;> conv => whnf
  · repeat (refine cndP_intro (by first | omega | exact rfl | (show _ ≤ 61; omega)) ?_; conv => whnf)
    rw [show List.take 2 (List.drop (0 + 0 + 0 + x.a.toNat * 2) (wkC [a0, a1, a2, a3, a4, a5, a6, a7, a8, a9, a10, a11, a12, a13, a14, a15, a16, a17, a18, a19, a20, a21, a22, a23] hn pc asked x an nilV how value)) = _ from wTake hL ha0 ha1 _ (by omega)]
    conv => whnf
    repeat (refine cndP_intro (by first | omega | exact rfl | (show _ ≤ 61; omega)) ?_; conv => whnf)
    have hS : ∀ L, moveL x L = L.set x.d.toNat (getW L x.a) := fun L => (if_neg h1).trans (if_pos h)
    rw [hS]
    refine retX [.old 0, .old 1, .old 2, .old 3, .old 4] (.inr rfl) rfl rfl rfl ⟨⟨_, rfl, ?_⟩, trivial⟩
    exact (rnL_app rfl _).trans (congrArg some (wSet hL hd0 hd1 (wkR hn pc asked x an nilV how value) (o := 0 + 0 + 0 + x.d.toNat * 2) (by omega) (getW _ x.a)).symm)
  refine brD_intro (fun h => ?_) (fun h => ?_) <;> conv => whnf
  · repeat (refine cndP_intro (by first | omega | exact rfl | (show _ ≤ 61; omega)) ?_; conv => whnf)
    rw [show List.take 2 (List.drop (0 + 0 + 0 + x.a.toNat * 2) (wkC [a0, a1, a2, a3, a4, a5, a6, a7, a8, a9, a10, a11, a12, a13, a14, a15, a16, a17, a18, a19, a20, a21, a22, a23] hn pc asked x an nilV how value)) = _ from wTake hL ha0 ha1 _ (by omega),
      show List.take 2 (List.drop (0 + 0 + 0 + x.d.toNat * 2) (wkC [a0, a1, a2, a3, a4, a5, a6, a7, a8, a9, a10, a11, a12, a13, a14, a15, a16, a17, a18, a19, a20, a21, a22, a23] hn pc asked x an nilV how value)) = _ from wTake hL hd0 hd1 _ (by omega)]
    conv => whnf
    repeat (refine cndP_intro (by first | omega | exact rfl | (show _ ≤ 61; omega)) ?_; conv => whnf)
    have hL2 : (List.set [a0, a1, a2, a3, a4, a5, a6, a7, a8, a9, a10, a11, a12, a13, a14, a15, a16, a17, a18, a19, a20, a21, a22, a23] x.d.toNat (getW [a0, a1, a2, a3, a4, a5, a6, a7, a8, a9, a10, a11, a12, a13, a14, a15, a16, a17, a18, a19, a20, a21, a22, a23] x.a)).length = 24 := by rw [List.length_set]; exact hL
    have hD : List.take (0 + 0 + 0 + x.d.toNat * 2) (wkC [a0, a1, a2, a3, a4, a5, a6, a7, a8, a9, a10, a11, a12, a13, a14, a15, a16, a17, a18, a19, a20, a21, a22, a23] hn pc asked x an nilV how value) ++ (V.agg [vb (getW [a0, a1, a2, a3, a4, a5, a6, a7, a8, a9, a10, a11, a12, a13, a14, a15, a16, a17, a18, a19, a20, a21, a22, a23] x.a).fst, vi (getW [a0, a1, a2, a3, a4, a5, a6, a7, a8, a9, a10, a11, a12, a13, a14, a15, a16, a17, a18, a19, a20, a21, a22, a23] x.a).snd]).cells ++ List.drop (0 + 0 + 0 + x.d.toNat * 2 + 2) (wkC [a0, a1, a2, a3, a4, a5, a6, a7, a8, a9, a10, a11, a12, a13, a14, a15, a16, a17, a18, a19, a20, a21, a22, a23] hn pc asked x an nilV how value)
      = wkC (List.set [a0, a1, a2, a3, a4, a5, a6, a7, a8, a9, a10, a11, a12, a13, a14, a15, a16, a17, a18, a19, a20, a21, a22, a23] x.d.toNat (getW [a0, a1, a2, a3, a4, a5, a6, a7, a8, a9, a10, a11, a12, a13, a14, a15, a16, a17, a18, a19, a20, a21, a22, a23] x.a)) hn pc asked x an nilV how value := wSet hL hd0 hd1 _ (by omega) _
    rw [hD]
    refine cndP_intro (by rw [wkLen hL2]; omega) ?_
    conv => whnf
    repeat (refine cndP_intro (by first | omega | exact rfl) ?_; conv => whnf)
    have hS : ∀ L, moveL x L = (L.set x.d.toNat (getW L x.a)).set x.a.toNat (getW L x.d) := fun L => (if_neg h1).trans ((if_neg h2).trans (if_pos h))
    rw [hS]
    refine retX [.old 0, .old 1, .old 2, .old 3, .old 4] (.inr rfl) rfl rfl rfl ⟨⟨_, rfl, ?_⟩, trivial⟩
    exact (rnL_app rfl _).trans (congrArg some (wSet hL2 ha0 ha1 (wkR hn pc asked x an nilV how value) (o := 0 + 0 + 0 + x.a.toNat * 2) (by omega) (getW _ x.d)).symm)
  · have hS : ∀ L, moveL x L = L := fun L => (if_neg h1).trans ((if_neg h2).trans (if_neg h))
    rw [hS]
    exact retX [.old 0, .old 1, .old 2, .old 3, .old 4] (.inr rfl) rfl rfl rfl ⟨⟨_, rfl, rfl⟩, trivial⟩
end
section
variable {L : List (Bool × Int)} {hn an en : Nat} {pc asked how value : Int} {x : Ins} (hL : L.length = 24)
include hL
theorem fn167v6 {l : Int} (h0 : 0 ≤ l) (h1 : l < 24) : FnOK Tryd.prog gidD 167 6 [.ptr 2 0, vi l] (hl [(2, .cel 272 (wkC L hn pc asked x an (.sl 5 0 en) how value))]) (vi (getW L l).2) (hl [(2, .cel 272 (wkC L hn pc asked x an (.sl 5 0 en) how value))]) 6 := by
  refine FnOK.of ok167 (Nat.le_refl _) (Nat.le_refl _) fun M => ?_
  conv => whnf
  repeat (refine cndP_intro (by omega) ?_; conv => whnf)
  rw [show (wkC L hn pc asked x an (.sl 5 0 en) how value)[0 + 0 + 0 + l.toNat * 2 + 1]? = some (vi (getW L l).2) from (wAt hL h0 h1 _ (by omega)).2]
  conv => whnf
  exact retX [.old 0, .old 1, .old 2, .old 3, .old 4, .old 5] (.inl rfl) rfl rfl rfl ⟨⟨_, rfl, rnL_app rfl _⟩, trivial⟩
theorem fn168v6 (v hh : Int) (h0 : 0 ≤ x.d) (h1 : x.d < 24) : FnOK Tryd.prog gidD 168 6 [.ptr 2 0, vi v, vi hh] (hl [(2, .cel 272 (wkC L hn pc asked x an (.sl 5 0 en) how value))]) (.tup []) (hl [(2, .cel 272 (wkC (setL L x.d v hh) hn pc asked x an (.sl 5 0 en) hh value))]) 6 := by
  refine FnOK.of ok168 (Nat.le_refl _) (Nat.le_refl _) fun M => ?_
  have hL' := hL
  obtain ⟨a0, a1, a2, a3, a4, a5, a6, a7, a8, a9, a10, a11, a12, a13, a14, a15, a16, a17, a18, a19, a20, a21, a22, a23, hLe⟩ := list24 hL
  conv => whnf
  rw [hLe]
  conv => whnf
  refine brD_intro (fun h => ?_) (fun h => ?_) <;> conv => whnf
  · repeat (refine cndP_intro (by first | omega | exact rfl | (show _ ≤ 61; omega)) ?_; conv => whnf)
    have hS : ∀ L, setL L x.d v hh = L.set x.d.toNat (true, v) := fun L => if_pos h
    rw [hS]
    refine retX [.old 0, .old 1, .old 2, .old 3, .old 4, .old 5] (.inr rfl) rfl rfl rfl ⟨⟨_, rfl, ?_⟩, trivial⟩
    rw [hLe] at hL
    exact (rnL_app rfl _).trans (congrArg some (wSet hL h0 h1 (wkR hn pc asked x an (.sl 5 0 en) hh value) (o := 0 + 0 + 0 + x.d.toNat * 2) (by omega) (true, v)).symm)
  · have hS : ∀ L, setL L x.d v hh = L := fun L => if_neg h
    rw [hS]
    exact retX [.old 0, .old 1, .old 2, .old 3, .old 4, .old 5] (.inr rfl) rfl rfl rfl ⟨⟨_, rfl, rfl⟩, trivial⟩
theorem fn173v6 (hd0 : 0 ≤ x.d) (hd1 : x.d < 24) (ha0 : 0 ≤ x.a) (ha1 : x.a < 24) : FnOK Tryd.prog gidD 173 6 [.ptr 2 0] (hl [(2, .cel 272 (wkC L hn pc asked x an (.sl 5 0 en) how value))]) (.tup []) (hl [(2, .cel 272 (wkC (moveL x L) hn pc asked x an (.sl 5 0 en) how value))]) 6 := by
  refine FnOK.of ok173 (Nat.le_refl _) (Nat.le_refl _) fun M => ?_
  obtain ⟨a0, a1, a2, a3, a4, a5, a6, a7, a8, a9, a10, a11, a12, a13, a14, a15, a16, a17, a18, a19, a20, a21, a22, a23, hLe⟩ := list24 hL
  conv => whnf
  rw [hLe]
  conv => whnf
  rw [hLe] at hL
  refine brD_intro (fun h => ?_) (fun h1 => ?_) <;> conv => whnf
  · repeat (refine cndP_intro (by first | omega | exact rfl | (show _ ≤ 61; omega)) ?_; conv => whnf)
    have hS : ∀ L, moveL x L = L.set x.d.toNat (true, x.n) := fun L => if_pos h
    rw [hS]
    refine retX [.old 0, .old 1, .old 2, .old 3, .old 4, .old 5] (.inr rfl) rfl rfl rfl ⟨⟨_, rfl, ?_⟩, trivial⟩
    exact (rnL_app rfl _).trans (congrArg some (wSet hL hd0 hd1 (wkR hn pc asked x an (.sl 5 0 en) how value) (o := 0 + 0 + 0 + x.d.toNat * 2) (by omega) (true, x.n)).symm)
  refine brD_intro (fun h => ?_) (fun h2 => ?_) <;> conv => whnf
  · repeat (refine cndP_intro (by first | omega | exact rfl | (show _ ≤ 61; omega)) ?_; conv => whnf)
    rw [show List.take 2 (List.drop (0 + 0 + 0 + x.a.toNat * 2) (wkC [a0, a1, a2, a3, a4, a5, a6, a7, a8, a9, a10, a11, a12, a13, a14, a15, a16, a17, a18, a19, a20, a21, a22, a23] hn pc asked x an (.sl 5 0 en) how value)) = _ from wTake hL ha0 ha1 _ (by omega)]
    conv => whnf
    repeat (refine cndP_intro (by first | omega | exact rfl | (show _ ≤ 61; omega)) ?_; conv => whnf)
    have hS : ∀ L, moveL x L = L.set x.d.toNat (getW L x.a) := fun L => (if_neg h1).trans (if_pos h)
    rw [hS]
    refine retX [.old 0, .old 1, .old 2, .old 3, .old 4, .old 5] (.inr rfl) rfl rfl rfl ⟨⟨_, rfl, ?_⟩, trivial⟩
    exact (rnL_app rfl _).trans (congrArg some (wSet hL hd0 hd1 (wkR hn pc asked x an (.sl 5 0 en) how value) (o := 0 + 0 + 0 + x.d.toNat * 2) (by omega) (getW _ x.a)).symm)
  refine brD_intro (fun h => ?_) (fun h => ?_) <;> conv => whnf
  · repeat (refine cndP_intro (by first | omega | exact rfl | (show _ ≤ 61; omega)) ?_; conv => whnf)
    rw [show List.take 2 (List.drop (0 + 0 + 0 + x.a.toNat * 2) (wkC [a0, a1, a2, a3, a4, a5, a6, a7, a8, a9, a10, a11, a12, a13, a14, a15, a16, a17, a18, a19, a20, a21, a22, a23] hn pc asked x an (.sl 5 0 en) how value)) = _ from wTake hL ha0 ha1 _ (by omega),
      show List.take 2 (List.drop (0 + 0 + 0 + x.d.toNat * 2) (wkC [a0, a1, a2, a3, a4, a5, a6, a7, a8, a9, a10, a11, a12, a13, a14, a15, a16, a17, a18, a19, a20, a21, a22, a23] hn pc asked x an (.sl 5 0 en) how value)) = _ from wTake hL hd0 hd1 _ (by omega)]
    conv => whnf
    repeat (refine cndP_intro (by first | omega | exact rfl | (show _ ≤ 61; omega)) ?_; conv => whnf)
    have hL2 : (List.set [a0, a1, a2, a3, a4, a5, a6, a7, a8, a9, a10, a11, a12, a13, a14, a15, a16, a17, a18, a19, a20, a21, a22, a23] x.d.toNat (getW [a0, a1, a2, a3, a4, a5, a6, a7, a8, a9, a10, a11, a12, a13, a14, a15, a16, a17, a18, a19, a20, a21, a22, a23] x.a)).length = 24 := by rw [List.length_set]; exact hL
    have hD : List.take (0 + 0 + 0 + x.d.toNat * 2) (wkC [a0, a1, a2, a3, a4, a5, a6, a7, a8, a9, a10, a11, a12, a13, a14, a15, a16, a17, a18, a19, a20, a21, a22, a23] hn pc asked x an (.sl 5 0 en) how value) ++ (V.agg [vb (getW [a0, a1, a2, a3, a4, a5, a6, a7, a8, a9, a10, a11, a12, a13, a14, a15, a16, a17, a18, a19, a20, a21, a22, a23] x.a).fst, vi (getW [a0, a1, a2, a3, a4, a5, a6, a7, a8, a9, a10, a11, a12, a13, a14, a15, a16, a17, a18, a19, a20, a21, a22, a23] x.a).snd]).cells ++ List.drop (0 + 0 + 0 + x.d.toNat * 2 + 2) (wkC [a0, a1, a2, a3, a4, a5, a6, a7, a8, a9, a10, a11, a12, a13, a14, a15, a16, a17, a18, a19, a20, a21, a22, a23] hn pc asked x an (.sl 5 0 en) how value)
      = wkC (List.set [a0, a1, a2, a3, a4, a5, a6, a7, a8, a9, a10, a11, a12, a13, a14, a15, a16, a17, a18, a19, a20, a21, a22, a23] x.d.toNat (getW [a0, a1, a2, a3, a4, a5, a6, a7, a8, a9, a10, a11, a12, a13, a14, a15, a16, a17, a18, a19, a20, a21, a22, a23] x.a)) hn pc asked x an (.sl 5 0 en) how value := wSet hL hd0 hd1 _ (by omega) _
    rw [hD]
    refine cndP_intro (by rw [wkLen hL2]; omega) ?_
    conv => whnf
    repeat (refine cndP_intro (by first | omega | exact rfl) ?_; conv => whnf)
    have hS : ∀ L, moveL x L = (L.set x.d.toNat (getW L x.a)).set x.a.toNat (getW L x.d) := fun L => (if_neg h1).trans ((if_neg h2).trans (if_pos h))
    rw [hS]
    refine retX [.old 0, .old 1, .old 2, .old 3, .old 4, .old 5] (.inr rfl) rfl rfl rfl ⟨⟨_, rfl, ?_⟩, trivial⟩
    exact (rnL_app rfl _).trans (congrArg some (wSet hL2 ha0 ha1 (wkR hn pc asked x an (.sl 5 0 en) how value) (o := 0 + 0 + 0 + x.a.toNat * 2) (by omega) (getW _ x.d)).symm)
  · have hS : ∀ L, moveL x L = L := fun L => (if_neg h1).trans ((if_neg h2).trans (if_neg h))
    rw [hS]
    exact retX [.old 0, .old 1, .old 2, .old 3, .old 4, .old 5] (.inr rfl) rfl rfl rfl ⟨⟨_, rfl, rfl⟩, trivial⟩
end
end Go.Abs
