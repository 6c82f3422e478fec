/- Contracts: cases compared; what is more than is looked at. -/
import Derived.Test.YtfeokfaccaenhaaDoorE33
set_option linter.unusedVariables false
set_option linter.unusedSimpArgs false
namespace Go.Abs
open Go.Proofs
set_option maxRecDepth 100000
set_option maxHeartbeats 4000000
-- joinery/joineryref06.Same
def c32 : C := .seq (.reg none [0, 1] [⟨some 4, none, .mv (.const (.bool false))⟩]) (.seq (.seq (.reg none [0, 1, 5] [⟨some 5, none, .mv (.const (.int .i64 0))⟩]) (.block 0 (.loop [0, 1, 5] (.seq (.seq (.reg none [0, 1, 5, 15] [⟨some 6, none, .mv (.tmp 5)⟩, ⟨some 7, none, .mv (.tmp 0)⟩, ⟨some 8, none, .len (.tmp 7)⟩, ⟨some 9, none, .bin .lss (.tmp 6) (.tmp 8)⟩, ⟨some 10, none, .mv (.tmp 9)⟩, ⟨some 11, some (10, true), .mv (.tmp 5)⟩, ⟨some 12, some (10, true), .mv (.tmp 1)⟩, ⟨some 13, some (10, true), .len (.tmp 12)⟩, ⟨some 14, some (10, true), .bin .lss (.tmp 11) (.tmp 13)⟩, ⟨some 15, none, .pick (.tmp 10) (.tmp 14) (.const (.bool false))⟩]) (.cond (.tmp 15) (.skip) (.exit 0))) (.seq (.block 1 (.seq (.reg (some [[], [0], [], [], [0, 1, 2, 3], [0, 1, 2, 3, 4], [0, 1, 2, 3], [0, 1, 2, 3], []]) [0, 1, 5, 26] [⟨some 18, none, .mv (.tmp 0)⟩, ⟨some 19, none, .mv (.tmp 5)⟩, ⟨some 20, none, .ia 1 (.tmp 18) (.tmp 19)⟩, ⟨some 21, none, .ld none (.tmp 20)⟩, ⟨some 22, none, .mv (.tmp 1)⟩, ⟨some 23, none, .mv (.tmp 5)⟩, ⟨some 24, none, .ia 1 (.tmp 22) (.tmp 23)⟩, ⟨some 25, none, .ld none (.tmp 24)⟩, ⟨some 26, none, .bin .neq (.tmp 21) (.tmp 25)⟩]) (.cond (.tmp 26) (.seq (.reg none [4] [⟨some 4, none, .mv (.const (.bool false))⟩]) (.ret)) (.skip)))) (.reg none [0, 1, 5] [⟨some 16, none, .mv (.tmp 5)⟩, ⟨some 17, none, .bin .add (.tmp 16) (.const (.int .i64 1))⟩, ⟨some 5, none, .mv (.tmp 17)⟩])))))) (.seq (.reg none [4] [⟨some 27, none, .mv (.tmp 0)⟩, ⟨some 28, none, .len (.tmp 27)⟩, ⟨some 29, none, .mv (.tmp 1)⟩, ⟨some 30, none, .len (.tmp 29)⟩, ⟨some 31, none, .bin .eql (.tmp 28) (.tmp 30)⟩, ⟨some 4, none, .mv (.tmp 31)⟩]) (.ret)))
theorem ok32 : tabOk Tryd.prog 32 c32 [.tmp 4] 2 = true := by kernel_rfl
-- joinery/joineryref17.Same
def c33 : C := .seq (.reg none [2, 3] [⟨some 2, none, .box 39 11 (.tmp 0)⟩, ⟨some 3, none, .box 39 11 (.tmp 1)⟩, ⟨some 4, none, .mv (.const (.bool false))⟩]) (.seq (.seq (.reg none [2, 3, 5] [⟨some 5, none, .mv (.const (.int .i64 0))⟩]) (.block 0 (.loop [2, 3, 5] (.seq (.seq (.reg none [2, 3, 5, 7] [⟨some 6, none, .mv (.tmp 5)⟩, ⟨some 7, none, .bin .lss (.tmp 6) (.const (.int .i64 8))⟩]) (.cond (.tmp 7) (.skip) (.exit 0))) (.seq (.block 1 (.seq (.reg (some [[], [0], [], [], [0, 1, 2, 3], [0, 1, 2, 3, 4], [0, 1, 2, 3], [0, 1, 2, 3], []]) [2, 3, 5, 18] [⟨some 10, none, .mv (.tmp 5)⟩, ⟨some 11, none, .fa 0 (.tmp 2)⟩, ⟨some 12, none, .iaa 8 1 (.tmp 11) (.tmp 10)⟩, ⟨some 13, none, .ld none (.tmp 12)⟩, ⟨some 14, none, .mv (.tmp 5)⟩, ⟨some 15, none, .fa 0 (.tmp 3)⟩, ⟨some 16, none, .iaa 8 1 (.tmp 15) (.tmp 14)⟩, ⟨some 17, none, .ld none (.tmp 16)⟩, ⟨some 18, none, .bin .neq (.tmp 13) (.tmp 17)⟩]) (.cond (.tmp 18) (.seq (.reg none [4] [⟨some 4, none, .mv (.const (.bool false))⟩]) (.ret)) (.skip)))) (.reg none [2, 3, 5] [⟨some 8, none, .mv (.tmp 5)⟩, ⟨some 9, none, .bin .add (.tmp 8) (.const (.int .i64 1))⟩, ⟨some 5, none, .mv (.tmp 9)⟩])))))) (.seq (.reg none [4] [⟨some 19, none, .fa 8 (.tmp 2)⟩, ⟨some 20, none, .ld none (.tmp 19)⟩, ⟨some 21, none, .fa 8 (.tmp 3)⟩, ⟨some 22, none, .ld none (.tmp 21)⟩, ⟨some 23, none, .call 32 [.tmp 20, .tmp 22]⟩, ⟨some 24, none, .mv (.tmp 23)⟩, ⟨some 25, some (24, true), .fa 9 (.tmp 2)⟩, ⟨some 26, some (24, true), .ld none (.tmp 25)⟩, ⟨some 27, some (24, true), .fa 9 (.tmp 3)⟩, ⟨some 28, some (24, true), .ld none (.tmp 27)⟩, ⟨some 29, some (24, true), .call 32 [.tmp 26, .tmp 28]⟩, ⟨some 30, none, .pick (.tmp 24) (.tmp 29) (.const (.bool false))⟩, ⟨some 31, none, .mv (.tmp 30)⟩, ⟨some 32, some (31, true), .fa 10 (.tmp 2)⟩, ⟨some 33, some (31, true), .ld none (.tmp 32)⟩, ⟨some 34, some (31, true), .fa 10 (.tmp 3)⟩, ⟨some 35, some (31, true), .ld none (.tmp 34)⟩, ⟨some 36, some (31, true), .bin .eql (.tmp 33) (.tmp 35)⟩, ⟨some 37, none, .pick (.tmp 31) (.tmp 36) (.const (.bool false))⟩, ⟨some 4, none, .mv (.tmp 37)⟩]) (.ret)))
theorem ok33 : tabOk Tryd.prog 33 c33 [.tmp 4] 2 = true := by kernel_rfl
-- joinery/joinerylaw08.Great
def c62 : C := .seq (.reg none [0, 3] [⟨some 3, none, .box 39 11 (.tmp 1)⟩, ⟨some 4, none, .mv (.const (.bool false))⟩]) (.seq (.reg none [4] [⟨some 5, none, .mv (.tmp 0)⟩, ⟨some 6, none, .len (.tmp 5)⟩, ⟨some 7, none, .bin .gtr (.tmp 6) (.const (.int .i64 300))⟩, ⟨some 8, none, .mv (.tmp 7)⟩, ⟨some 9, some (8, false), .fa 8 (.tmp 3)⟩, ⟨some 10, some (8, false), .ld none (.tmp 9)⟩, ⟨some 11, some (8, false), .len (.tmp 10)⟩, ⟨some 12, some (8, false), .bin .gtr (.tmp 11) (.const (.int .i64 100))⟩, ⟨some 13, none, .pick (.tmp 8) (.const (.bool true)) (.tmp 12)⟩, ⟨some 14, none, .mv (.tmp 13)⟩, ⟨some 15, some (14, false), .fa 9 (.tmp 3)⟩, ⟨some 16, some (14, false), .ld none (.tmp 15)⟩, ⟨some 17, some (14, false), .len (.tmp 16)⟩, ⟨some 18, some (14, false), .bin .gtr (.tmp 17) (.const (.int .i64 1000))⟩, ⟨some 19, none, .pick (.tmp 14) (.const (.bool true)) (.tmp 18)⟩, ⟨some 20, none, .mv (.tmp 19)⟩, ⟨some 21, some (20, false), .fa 10 (.tmp 3)⟩, ⟨some 22, some (20, false), .ld none (.tmp 21)⟩, ⟨some 23, some (20, false), .bin .gtr (.tmp 22) (.const (.int .i64 1000))⟩, ⟨some 24, some (20, false), .mv (.tmp 23)⟩, ⟨some 25, some (24, true), .fa 10 (.tmp 3)⟩, ⟨some 26, some (24, true), .ld none (.tmp 25)⟩, ⟨some 27, some (24, true), .bin .leq (.tmp 26) (.const (.int .i64 5000))⟩, ⟨some 28, some (20, false), .pick (.tmp 24) (.tmp 27) (.const (.bool false))⟩, ⟨some 29, none, .pick (.tmp 20) (.const (.bool true)) (.tmp 28)⟩, ⟨some 4, none, .mv (.tmp 29)⟩]) (.ret))
theorem ok62 : tabOk Tryd.prog 62 c62 [.tmp 4] 2 = true := by kernel_rfl
-- joinery/joinerylaw20.great
def c28 : C := .seq (.reg none [0, 1, 5] [⟨some 5, none, .box 39 11 (.tmp 2)⟩, ⟨some 6, none, .mv (.const (.bool false))⟩]) (.seq (.reg none [6] [⟨some 7, none, .mv (.tmp 0)⟩, ⟨some 8, none, .ld (some 11) (.tmp 5)⟩, ⟨some 9, none, .call 62 [.tmp 7, .tmp 8]⟩, ⟨some 10, none, .mv (.tmp 9)⟩, ⟨some 11, some (10, false), .mv (.tmp 1)⟩, ⟨some 12, some (10, false), .ld (some 11) (.tmp 5)⟩, ⟨some 13, some (10, false), .call 62 [.tmp 11, .tmp 12]⟩, ⟨some 14, none, .pick (.tmp 10) (.const (.bool true)) (.tmp 13)⟩, ⟨some 15, none, .mv (.tmp 14)⟩, ⟨some 16, some (15, false), .mv (.tmp 0)⟩, ⟨some 17, some (15, false), .len (.tmp 16)⟩, ⟨some 18, some (15, false), .bin .gtr (.tmp 17) (.const (.int .i64 60))⟩, ⟨some 19, none, .pick (.tmp 15) (.const (.bool true)) (.tmp 18)⟩, ⟨some 20, none, .mv (.tmp 19)⟩, ⟨some 21, some (20, false), .mv (.tmp 1)⟩, ⟨some 22, some (20, false), .len (.tmp 21)⟩, ⟨some 23, some (20, false), .bin .gtr (.tmp 22) (.const (.int .i64 60))⟩, ⟨some 24, none, .pick (.tmp 20) (.const (.bool true)) (.tmp 23)⟩, ⟨some 25, none, .mv (.tmp 24)⟩, ⟨some 26, some (25, false), .fa 10 (.tmp 5)⟩, ⟨some 27, some (25, false), .ld none (.tmp 26)⟩, ⟨some 28, some (25, false), .bin .gtr (.tmp 27) (.const (.int .i64 200))⟩, ⟨some 29, some (25, false), .mv (.tmp 28)⟩, ⟨some 30, some (29, true), .fa 10 (.tmp 5)⟩, ⟨some 31, some (29, true), .ld none (.tmp 30)⟩, ⟨some 32, some (29, true), .bin .leq (.tmp 31) (.const (.int .i64 5000))⟩, ⟨some 33, some (25, false), .pick (.tmp 29) (.tmp 32) (.const (.bool false))⟩, ⟨some 34, none, .pick (.tmp 25) (.const (.bool true)) (.tmp 33)⟩, ⟨some 35, none, .mv (.tmp 34)⟩, ⟨some 36, some (35, false), .fa 9 (.tmp 5)⟩, ⟨some 37, some (35, false), .ld none (.tmp 36)⟩, ⟨some 38, some (35, false), .len (.tmp 37)⟩, ⟨some 39, some (35, false), .bin .gtr (.tmp 38) (.const (.int .i64 200))⟩, ⟨some 40, none, .pick (.tmp 35) (.const (.bool true)) (.tmp 39)⟩, ⟨some 6, none, .mv (.tmp 40)⟩]) (.ret))
theorem ok28 : tabOk Tryd.prog 28 c28 [.tmp 6] 3 = true := by kernel_rfl
theorem fn32 (a b : List Int) (ha : a.length ≤ 1000000) : FnOK Tryd.prog gidD 32 4 [.sl 2 0 a.length, .sl 3 0 b.length] (hl [(2, .ro (nums a)), (3, .ro (nums b))]) (vb (decide (a = b))) (hl []) 4 := by
  refine FnOK.of ok32 (Nat.le_refl _) (Nat.le_refl _) fun M => ?_
  have hla := nums_len a
  have hlb := nums_len b
  conv => whnf
  refine LoopS.ind (S := Nat) (fun i => [(0, .sl 2 0 a.length), (1, .sl 3 0 b.length), (5, vi i)]) (fun _ => hl [(2, .ro (nums a)), (3, .ro (nums b))]) 4
    (fun i => i ≤ a.length ∧ i ≤ b.length ∧ a.take i = b.take i) (fun i => a.length - i) ?_ 0 ⟨Nat.zero_le _, Nat.zero_le _, rfl⟩
  intro i ⟨hi, hi2, hb⟩ ih
  refine LoopS.round rfl ?_
  conv => whnf
  by_cases hlt : i < a.length
  · refine brT_true (decide_eq_true (by omega)) ?_
    conv => whnf
    by_cases hlt2 : i < b.length
    · refine brT_true (decide_eq_true (by omega)) ?_
      obtain ⟨x, hx⟩ : ∃ x, a[i]? = some x := ⟨_, List.getElem?_eq_getElem hlt⟩
      obtain ⟨y, hy⟩ : ∃ y, b[i]? = some y := ⟨_, List.getElem?_eq_getElem hlt2⟩
      conv => whnf
      repeat (refine cndP_intro (by omega) ?_; conv => whnf)
      rw [numAt hx]
      conv => whnf
      repeat (refine cndP_intro (by omega) ?_; conv => whnf)
      rw [numAt hy]
      conv => whnf
      (first | refine brD_intro (fun h => ?_) (fun h => ?_) | refine brT_intro (fun h => ?_) (fun h => ?_)) <;> conv => whnf
      · exact retX [.old 0, .old 1, .old 2, .old 3] (.inl rfl) rfl (congrArg (fun b => some (vb b)) (decide_eq_false (fun e => by subst e; rw [hx] at hy; cases hy; exact h rfl))) rfl trivial
      · have he : x = y := by simpa using h
        subst he
        exact LoopS.ren [.old 0, .old 1, .old 2, .old 3] (ih (i + 1) ⟨hlt, hlt2, by rw [List.take_add_one, List.take_add_one, hb, hx, hy]⟩ (by omega)) rfl (by decide) ⟨rfl, rfl, congrArg (fun z => some (vi z)) (w64i hlt (by omega)).symm, trivial⟩ ⟨rfl, rfl, trivial⟩
    · refine brT_false (decide_eq_false (by omega)) ?_
      clear ih
      conv => whnf
      refine retX [.old 0, .old 1, .old 2, .old 3] (.inl rfl) rfl (congrArg (fun b => some (vb b)) ?_) rfl trivial
      rw [decide_eq_false (fun e => by subst e; omega), decide_eq_false (by omega)]
  · refine brT_false (decide_eq_false (by omega)) ?_
    clear ih
    conv => whnf
    refine retX [.old 0, .old 1, .old 2, .old 3] (.inl rfl) rfl (congrArg (fun b => some (vb b)) (decide_eq_decide.2 ?_)) rfl trivial
    constructor
    · intro e; subst e; rfl
    · intro e
      rw [List.take_of_length_le (by omega), List.take_of_length_le (by omega)] at hb
      exact hb
def sameR (R Q : List Int) : Bool := decide (R = Q)
instance casDec : DecidableEq Cas := fun a b => decidable_of_iff (a.R = b.R ∧ a.H = b.H ∧ a.A = b.A ∧ a.fuel = b.fuel) (by cases a; cases b; simp)
theorem fn33 (c d : Cas) (hR : c.R.length = 8) (hQ : d.R.length = 8) (hH : c.H.length ≤ 1000000) (hA : c.A.length ≤ 1000000) : FnOK Tryd.prog gidD 33 6 [caV 2 3 c, caV 4 5 d]
    (hl [(2, .ro (nums c.H)), (3, .ro (nums c.A)), (4, .ro (nums d.H)), (5, .ro (nums d.A))]) (vb (decide (c = d))) (hl []) 6 := by
  refine FnOK.of ok33 (Nat.le_refl _) (Nat.le_refl _) fun M => ?_
  have h1 := fn32 c.H d.H hH
  have h2 := fn32 c.A d.A hA
  have hS : decide (c = d) = (decide (c.R = d.R) && (decide (c.H = d.H) && (decide (c.A = d.A) && decide (c.fuel = d.fuel)))) := by
    cases c; cases d; simp [Bool.eq_iff_iff]
  rw [hS]
  generalize decide (c.H = d.H) = b1 at h1 ⊢
  generalize decide (c.A = d.A) = b2 at h2 ⊢
  clear hS
  obtain ⟨R, H, A, fuel⟩ := c
  obtain ⟨Q, H2, A2, fuel2⟩ := d
  simp only at hR hQ h1 h2
  obtain ⟨r0, r1, r2, r3, r4, r5, r6, r7, hRe⟩ := list8 hR
  obtain ⟨q0, q1, q2, q3, q4, q5, q6, q7, hQe⟩ := list8 hQ
  unfold caV caC
  simp only
  rw [hRe, hQe]
  conv => whnf
  refine LoopS.round rfl ?_
  conv => whnf
  repeat (refine cndP_intro (by exact rfl) ?_; conv => whnf)
  refine brD_intro (fun h0 => ?_) (fun h0 => ?_) <;> conv => whnf
  · exact retX [.old 0, .old 1, .old 2, .old 3, .old 4, .old 5] (.inl rfl) rfl (congrArg (fun b => some (vb b)) (by simp [h0])) rfl trivial
  refine LoopS.round rfl ?_
  conv => whnf
  repeat (refine cndP_intro (by exact rfl) ?_; conv => whnf)
  refine brD_intro (fun h1' => ?_) (fun h1' => ?_) <;> conv => whnf
  · exact retX [.old 0, .old 1, .old 2, .old 3, .old 4, .old 5] (.inl rfl) rfl (congrArg (fun b => some (vb b)) (by simp [h1'])) rfl trivial
  refine LoopS.round rfl ?_
  conv => whnf
  repeat (refine cndP_intro (by exact rfl) ?_; conv => whnf)
  refine brD_intro (fun h2' => ?_) (fun h2' => ?_) <;> conv => whnf
  · exact retX [.old 0, .old 1, .old 2, .old 3, .old 4, .old 5] (.inl rfl) rfl (congrArg (fun b => some (vb b)) (by simp [h2'])) rfl trivial
  refine LoopS.round rfl ?_
  conv => whnf
  repeat (refine cndP_intro (by exact rfl) ?_; conv => whnf)
  refine brD_intro (fun h3 => ?_) (fun h3 => ?_) <;> conv => whnf
  · exact retX [.old 0, .old 1, .old 2, .old 3, .old 4, .old 5] (.inl rfl) rfl (congrArg (fun b => some (vb b)) (by simp [h3])) rfl trivial
  refine LoopS.round rfl ?_
  conv => whnf
  repeat (refine cndP_intro (by exact rfl) ?_; conv => whnf)
  refine brD_intro (fun h4 => ?_) (fun h4 => ?_) <;> conv => whnf
  · exact retX [.old 0, .old 1, .old 2, .old 3, .old 4, .old 5] (.inl rfl) rfl (congrArg (fun b => some (vb b)) (by simp [h4])) rfl trivial
  refine LoopS.round rfl ?_
  conv => whnf
  repeat (refine cndP_intro (by exact rfl) ?_; conv => whnf)
  refine brD_intro (fun h5 => ?_) (fun h5 => ?_) <;> conv => whnf
  · exact retX [.old 0, .old 1, .old 2, .old 3, .old 4, .old 5] (.inl rfl) rfl (congrArg (fun b => some (vb b)) (by simp [h5])) rfl trivial
  refine LoopS.round rfl ?_
  conv => whnf
  repeat (refine cndP_intro (by exact rfl) ?_; conv => whnf)
  refine brD_intro (fun h6 => ?_) (fun h6 => ?_) <;> conv => whnf
  · exact retX [.old 0, .old 1, .old 2, .old 3, .old 4, .old 5] (.inl rfl) rfl (congrArg (fun b => some (vb b)) (by simp [h6])) rfl trivial
  refine LoopS.round rfl ?_
  conv => whnf
  repeat (refine cndP_intro (by exact rfl) ?_; conv => whnf)
  refine brD_intro (fun h7 => ?_) (fun h7 => ?_) <;> conv => whnf
  · exact retX [.old 0, .old 1, .old 2, .old 3, .old 4, .old 5] (.inl rfl) rfl (congrArg (fun b => some (vb b)) (by simp [h7])) rfl trivial
  refine LoopS.round rfl ?_
  conv => whnf
  simp only [ne_eq, Decidable.not_not] at h0 h1' h2' h3 h4 h5 h6 h7
  subst h0 h1' h2' h3 h4 h5 h6 h7
  refine callX h1 [.old 0, .old 1, .old 2, .old 4] rfl rfl rfl rfl ⟨rfl, rfl, trivial⟩ ?_
  cases b1
  · conv => whnf
    exact retX [.old 0, .old 1, .old 2, .old 3, .old 4, .old 5] (.inl rfl) rfl (congrArg (fun b => some (vb b)) (by simp)) rfl trivial
  conv => whnf
  refine callX h2 [.old 0, .old 1, .old 3, .old 5] rfl rfl rfl rfl ⟨rfl, rfl, trivial⟩ ?_
  cases b2
  · conv => whnf
    exact retX [.old 0, .old 1, .old 2, .old 3, .old 4, .old 5] (.inl rfl) rfl (congrArg (fun b => some (vb b)) (by simp)) rfl trivial
  conv => whnf
  exact retX [.old 0, .old 1, .old 2, .old 3, .old 4, .old 5] (.inl rfl) rfl (congrArg (fun b => some (vb b)) (by simp)) rfl trivial
def great8 (f : List Ins) (c : Cas) : Bool := decide ((f.length : Int) > 300) || (decide ((c.H.length : Int) > 100) || (decide ((c.A.length : Int) > 1000) || (decide (c.fuel > 1000) && decide (c.fuel ≤ 5000))))
theorem fn62 (f : List Ins) (c : Cas) (hR : c.R.length = 8) : FnOK Tryd.prog gidD 62 5 [.sl 2 0 f.length, caV 3 4 c] (hl []) (vb (great8 f c)) (hl []) 5 := by
  refine FnOK.of ok62 (Nat.le_refl _) (Nat.le_refl _) fun M => ?_
  obtain ⟨R, H, A, fuel⟩ := c
  simp only at hR
  obtain ⟨r0, r1, r2, r3, r4, r5, r6, r7, hRe⟩ := list8 hR
  unfold caV caC great8
  simp only
  rw [hRe]
  conv => whnf
  repeat' (refine brT_intro (fun h => ?_) (fun h => ?_) <;> (conv => whnf))
  all_goals exact retX [.old 0, .old 1, .old 2, .old 3, .old 4] (.inl rfl) rfl (congrArg (fun b => some (vb b)) (by simp only [*, Bool.true_or, Bool.or_true, Bool.false_or, Bool.and_true, Bool.true_and, Bool.false_and, Bool.and_false, Bool.or_false])) rfl trivial
def great20 (f g : List Ins) (c : Cas) : Bool := great8 f c || (great8 g c || (decide ((f.length : Int) > 60) || (decide ((g.length : Int) > 60) || ((decide (c.fuel > 200) && decide (c.fuel ≤ 5000)) || decide ((c.A.length : Int) > 200)))))
theorem fn28 (f g : List Ins) (c : Cas) (hR : c.R.length = 8) : FnOK Tryd.prog gidD 28 6 [.sl 2 0 f.length, .sl 3 0 g.length, caV 4 5 c] (hl []) (vb (great20 f g c)) (hl []) 6 := by
  refine FnOK.of ok28 (Nat.le_refl _) (Nat.le_refl _) fun M => ?_
  have h1 := fn62 f c hR
  have h2 := fn62 g c hR
  unfold great20
  generalize great8 f c = b1 at h1 ⊢
  generalize great8 g c = b2 at h2 ⊢
  obtain ⟨R, H, A, fuel⟩ := c
  simp only at hR
  obtain ⟨r0, r1, r2, r3, r4, r5, r6, r7, hRe⟩ := list8 hR
  unfold caV caC at h1 h2 ⊢
  simp only at h1 h2 ⊢
  rw [hRe] at h1 h2 ⊢
  conv => whnf
  refine callX h1 [.old 0, .old 1, .old 2, .old 4, .old 5] rfl rfl rfl rfl trivial ?_
  cases b1
  rotate_left
  · conv => whnf
    exact retX [.old 0, .old 1, .old 2, .old 3, .old 4, .old 5] (.inl rfl) rfl rfl rfl trivial
  conv => whnf
  refine callX h2 [.old 0, .old 1, .old 3, .old 4, .old 5] rfl rfl rfl rfl trivial ?_
  cases b2
  rotate_left
  · conv => whnf
    exact retX [.old 0, .old 1, .old 2, .old 3, .old 4, .old 5] (.inl rfl) rfl rfl rfl trivial
  conv => whnf
  repeat' (refine brT_intro (fun h => ?_) (fun h => ?_) <;> (conv => whnf))
  all_goals exact retX [.old 0, .old 1, .old 2, .old 3, .old 4, .old 5] (.inl rfl) rfl (congrArg (fun b => some (vb b)) (by simp only [*, Bool.true_or, Bool.or_true, Bool.false_or, Bool.and_true, Bool.true_and, Bool.false_and, Bool.and_false, Bool.or_false])) rfl trivial
end Go.Abs
