/- Contracts: what two runs tell of what is unfair; the parts of shrink. -/
import Derived.Test.YtfeokfaccaenhaaDoorE31
set_option linter.unusedVariables false
set_option linter.unusedSimpArgs false
namespace Go.Abs
open Go.Proofs
set_option maxRecDepth 100000
set_option maxHeartbeats 4000000
-- joinery/shrink.Case$1
def c63 : C := .seq (.reg none [1, 2, 3] [⟨some 3, none, .box 39 11 (.tmp 0)⟩, ⟨some 4, none, .mv (.const (.bool false))⟩]) (.seq (.reg none [5] [⟨some 8, none, .ld none (.tmp 1)⟩, ⟨some 9, none, .ld none (.tmp 2)⟩, ⟨some 10, none, .ld (some 11) (.tmp 3)⟩, ⟨some 11, none, .call 31 [.tmp 8, .tmp 9, .tmp 10]⟩, ⟨some 7, none, .mv (.tmp 11)⟩, ⟨some 12, none, .ext (.tmp 7) 0⟩, ⟨some 13, none, .ext (.tmp 7) 1⟩, ⟨some 5, none, .mv (.tmp 12)⟩, ⟨some 6, none, .mv (.tmp 13)⟩]) (.seq (.reg none [4] [⟨some 14, none, .mv (.tmp 5)⟩, ⟨some 15, none, .bin .neq (.tmp 14) (.const (.int .i64 0))⟩, ⟨some 4, none, .mv (.tmp 15)⟩]) (.ret)))
theorem ok63 : tabOk Tryd.prog 63 c63 [.tmp 4] 3 = true := by kernel_rfl
-- joinery/shrink.Case$2
def c65 : C := .seq (.reg none [0, 1, 2] [⟨some 4, none, .mv (.const (.bool false))⟩]) (.seq (.reg none [0, 2, 5] [⟨some 6, none, .ld (some 11) (.tmp 1)⟩, ⟨some 5, none, .new 39 [.int .i64 0, .int .i64 0, .int .i64 0, .int .i64 0, .int .i64 0, .int .i64 0, .int .i64 0, .int .i64 0, .slice none 0 0, .slice none 0 0, .int .i64 0]⟩, ⟨none, none, .st 11 (.tmp 5) (.tmp 6)⟩]) (.seq (.reg none [2, 5] [⟨some 7, none, .mv (.tmp 0)⟩, ⟨some 8, none, .fa 10 (.tmp 5)⟩, ⟨none, none, .st 1 (.tmp 8) (.tmp 7)⟩]) (.seq (.reg none [4] [⟨some 9, none, .ld none (.tmp 2)⟩, ⟨some 10, none, .ld (some 11) (.tmp 5)⟩, ⟨some 11, none, .callv (.tmp 9) [.tmp 10]⟩, ⟨some 4, none, .mv (.tmp 11)⟩]) (.ret))))
theorem ok65 : tabOk Tryd.prog 65 c65 [.tmp 4] 3 = true := by kernel_rfl
-- joinery/shrink.Case$3
def c66 : C := .seq (.reg none [0, 1, 2] [⟨some 4, none, .mv (.const (.bool false))⟩]) (.seq (.reg none [0, 1, 2, 5] [⟨some 6, none, .ld (some 11) (.tmp 1)⟩, ⟨some 5, none, .new 39 [.int .i64 0, .int .i64 0, .int .i64 0, .int .i64 0, .int .i64 0, .int .i64 0, .int .i64 0, .int .i64 0, .slice none 0 0, .slice none 0 0, .int .i64 0]⟩, ⟨none, none, .st 11 (.tmp 5) (.tmp 6)⟩]) (.seq (.reg none [2, 5] [⟨some 7, none, .fa 9 (.tmp 1)⟩, ⟨some 8, none, .ld none (.tmp 7)⟩, ⟨some 9, none, .mv (.tmp 0)⟩, ⟨some 10, none, .slc 1 (.tmp 8) none (some (.tmp 9))⟩, ⟨some 11, none, .fa 9 (.tmp 5)⟩, ⟨none, none, .st 1 (.tmp 11) (.tmp 10)⟩]) (.seq (.reg none [4] [⟨some 12, none, .ld none (.tmp 2)⟩, ⟨some 13, none, .ld (some 11) (.tmp 5)⟩, ⟨some 14, none, .callv (.tmp 12) [.tmp 13]⟩, ⟨some 4, none, .mv (.tmp 14)⟩]) (.ret))))
theorem ok66 : tabOk Tryd.prog 66 c66 [.tmp 4] 3 = true := by kernel_rfl
-- joinery/shrink.least[int]
def c64 : C := .seq (.reg none [0, 1, 2] [⟨some 6, none, .mv (.const (.int .i64 0))⟩]) (.seq (.block 0 (.loop [0, 1, 2] (.seq (.seq (.reg none [0, 1, 2, 10] [⟨some 8, none, .mv (.tmp 0)⟩, ⟨some 9, none, .mv (.tmp 1)⟩, ⟨some 10, none, .bin .lss (.tmp 8) (.tmp 9)⟩]) (.cond (.tmp 10) (.skip) (.exit 0))) (.block 1 (.seq (.reg none [0, 1, 2, 7] [⟨some 11, none, .mv (.tmp 0)⟩, ⟨some 12, none, .mv (.tmp 1)⟩, ⟨some 13, none, .mv (.tmp 0)⟩, ⟨some 14, none, .bin .sub (.tmp 12) (.tmp 13)⟩, ⟨some 15, none, .bin .quo (.tmp 14) (.const (.int .i64 2))⟩, ⟨some 16, none, .bin .add (.tmp 11) (.tmp 15)⟩, ⟨some 7, none, .mv (.tmp 16)⟩]) (.seq (.reg none [0, 1, 2, 7, 19] [⟨some 17, none, .mv (.tmp 2)⟩, ⟨some 18, none, .mv (.tmp 7)⟩, ⟨some 19, none, .callv (.tmp 17) [.tmp 18]⟩]) (.cond (.tmp 19) (.reg none [0, 1, 2] [⟨some 20, none, .mv (.tmp 7)⟩, ⟨some 1, none, .mv (.tmp 20)⟩]) (.reg none [0, 1, 2] [⟨some 21, none, .mv (.tmp 7)⟩, ⟨some 22, none, .bin .add (.tmp 21) (.const (.int .i64 1))⟩, ⟨some 0, none, .mv (.tmp 22)⟩])))))))) (.seq (.reg none [6] [⟨some 23, none, .mv (.tmp 0)⟩, ⟨some 6, none, .mv (.tmp 23)⟩]) (.ret)))
theorem ok64 : tabOk Tryd.prog 64 c64 [.tmp 6] 3 = true := by kernel_rfl
theorem fn31n (f g : List Ins) (c : Cas) (hR : c.R.length = 8) (hn : (fair f c && fair g c) = false) : FnOK Tryd.prog gidD 31 6 [.sl 2 0 f.length, .sl 3 0 g.length, caV 4 5 c]
    (hl [(0, .ro shapesV), (2, .ro (insCells f)), (3, .ro (insCells g)), (4, .ro (nums c.H)), (5, .ro (nums c.A))]) (.tup [vi 0, vi 1]) (hl []) 6 := by
  refine FnOK.of ok31 (Nat.le_refl _) (Nat.le_refl _) fun M => ?_
  have h1n := fn67n f c hR
  have h2n := fn67n g c hR
  have h1 := fn67 f c hR
  have h2 := fn67 g c hR
  generalize fair f c = b1 at hn h1n h1
  generalize fair g c = b2 at hn h2n h2
  generalize silB f c = p at h1
  generalize silB g c = q at h2
  generalize (runC f c).2 = t at h1
  generalize (runC g c).2 = u at h2
  obtain ⟨R, H, A, fuel⟩ := c
  simp only at hR
  obtain ⟨r0, r1, r2, r3, r4, r5, r6, r7, hRe⟩ := list8 hR
  unfold caV caC at h1 h2 h1n h2n ⊢
  simp only at h1 h2 h1n h2n ⊢
  rw [hRe] at h1 h2 h1n h2n ⊢
  conv => whnf
  cases b1
  · refine callX (h1n rfl) [.old 0, .old 1, .old 2, .old 4, .old 5] rfl rfl rfl rfl ⟨rfl, rfl, trivial⟩ ?_
    conv => whnf
    cases b2
    · refine callX (h2n rfl) [.old 0, .old 1, .old 3, .old 4, .old 5] rfl rfl rfl rfl ⟨rfl, rfl, trivial⟩ ?_
      conv => whnf
      exact retX [.old 0, .old 1, .old 2, .old 3, .old 4, .old 5] (.inl rfl) rfl rfl rfl trivial
    · refine callX (h2 rfl) [.old 0, .old 1, .old 3, .old 4, .old 5] rfl rfl rfl rfl ⟨rfl, rfl, rfl, rfl, trivial⟩ ?_
      conv => whnf
      exact retX [.old 0, .old 1, .old 2, .old 3, .old 4, .old 5] (.inl rfl) rfl rfl rfl trivial
  · refine callX (h1 rfl) [.old 0, .old 1, .old 2, .old 4, .old 5] rfl rfl rfl rfl ⟨rfl, rfl, rfl, rfl, trivial⟩ ?_
    conv => whnf
    obtain rfl : b2 = false := by simpa using hn
    refine callX (h2n rfl) [.old 0, .old 1, .old 3, .old 4, .old 5] rfl rfl rfl rfl ⟨rfl, rfl, trivial⟩ ?_
    conv => whnf
    exact retX [.old 0, .old 1, .old 2, .old 3, .old 4, .old 5] (.inl rfl) rfl rfl rfl trivial
theorem ge0v (H : List Int) : 0 + (nums H).length ≤ (vals (nums H)).length := by rw [vals_length]; omega
theorem sub0v (t : TypeId) (H : List Int) : (Blk.own t (vals (nums H))).sub 0 (nums H).length = vals (nums H) := subAll t _
theorem takeLe (A : List Int) (n : Nat) : 0 + (nums (A.take n)).length ≤ (vals (nums A)).length := by
  rw [vnums_len, nums_len, List.length_take]; omega
theorem subTake (A : List Int) (n : Nat) : ((vals (nums A)).drop 0).take (nums (A.take n)).length = vals (nums (A.take n)) := by
  rw [List.drop_zero, nums_len, List.length_take]
  simp only [vals, nums, ← List.map_take]
  congr 2
  rw [List.take_eq_take_iff]; omega
/-- Does a case tell something? -/
def telB (f g : List Ins) (c : Cas) : Bool := decide (tellC f g c ≠ 0)
section
variable (f g : List Ins) (x : Cas)
theorem fn63 (hR : x.R.length = 8) (hf : fair f x = true) (hg : fair g x = true) : FnOK Tryd.prog gidD 63 8 [caV 4 5 x, .ptr 2 0, .ptr 3 0]
    (hl [(0, .ro shapesV), (2, .cel 22 [.sl 6 0 f.length]), (3, .cel 22 [.sl 7 0 g.length]), (4, .ro (nums x.H)), (5, .ro (nums x.A)), (6, .ro (insCells f)), (7, .ro (insCells g))]) (vb (telB f g x))
    (hl [(2, .cel 22 [.sl 6 0 f.length]), (3, .cel 22 [.sl 7 0 g.length])]) 8 := by
  refine FnOK.of ok63 (Nat.le_refl _) (Nat.le_refl _) fun M => ?_
  have hT := fn31 f g x hR hf hg
  unfold telB
  generalize tellC f g x = z at hT ⊢
  obtain ⟨R, H, A, fuel⟩ := x
  simp only at hR
  obtain ⟨r0, r1, r2, r3, r4, r5, r6, r7, hRe⟩ := list8 hR
  unfold caV caC at hT ⊢
  simp only at hT ⊢
  rw [hRe] at hT ⊢
  conv => whnf
  refine callX hT [.old 0, .old 1, .old 6, .old 7, .old 4, .old 5] rfl rfl rfl rfl ⟨rfl, rfl, rfl, rfl, rfl, trivial⟩ ?_
  conv => whnf
  exact retX [.old 0, .old 1, .old 2, .old 3, .old 4, .old 5, .old 6, .old 7] (.inl rfl) rfl rfl rfl ⟨⟨_, rfl, rfl⟩, ⟨_, rfl, rfl⟩, trivial⟩
def shO (f g : List Ins) (c : Cas) : FH := [(2, .cel 39 (caC 8 9 c)), (3, .cel 97 [.fn 63 [.ptr 4 0, .ptr 5 0]]), (4, .cel 22 [.sl 6 0 f.length]), (5, .cel 22 [.sl 7 0 g.length]), (8, .row 2 (nums c.H)), (9, .row 2 (nums c.A))]
def shI (f g : List Ins) (c : Cas) : FH := (0, .ro shapesV) :: (6, .ro (insCells f)) :: (7, .ro (insCells g)) :: shO f g c
theorem fn65 (n : Int) (hR : x.R.length = 8) (hf : fair f { x with fuel := n } = true) (hg : fair g { x with fuel := n } = true) : FnOK Tryd.prog gidD 65 10 [vi n, .ptr 2 0, .ptr 3 0] (hl (shI f g x)) (vb (telB f g { x with fuel := n })) (hl (shO f g x)) 10 := by
  refine FnOK.of ok65 (Nat.le_refl _) (Nat.le_refl _) fun M => ?_
  have hT := fn63 f g { x with fuel := n } hR hf hg
  generalize telB f g { x with fuel := n } = z at hT ⊢
  obtain ⟨R, H, A, fuel⟩ := x
  simp only at hR
  obtain ⟨r0, r1, r2, r3, r4, r5, r6, r7, hRe⟩ := list8 hR
  unfold shI shO
  unfold caV at hT
  unfold caC at hT ⊢
  simp only at hT ⊢
  rw [hRe] at hT ⊢
  conv => whnf
  refine callX hT [.old 0, .old 1, .old 4, .old 5, .view 8 0, .view 9 0, .old 6, .old 7] rfl rfl rfl rfl ⟨rfl, ⟨_, rfl, rfl⟩, ⟨_, rfl, rfl⟩, ⟨_, rfl, ge0v H, sub0v 2 H⟩, ⟨_, rfl, ge0v A, sub0v 2 A⟩, rfl, rfl, trivial⟩ ?_
  conv => whnf
  exact retX [.old 0, .old 1, .old 2, .old 3, .old 4, .old 5, .old 6, .old 7, .old 8, .old 9] (.inl rfl) rfl rfl rfl ⟨⟨_, rfl, rfl⟩, ⟨_, rfl, rfl⟩, ⟨_, rfl, rfl⟩, ⟨_, rfl, rfl⟩, ⟨_, rfl, rfl⟩, ⟨_, rfl, rfl⟩, trivial⟩
theorem fn66 (n : Nat) (hn : n ≤ x.A.length) (hR : x.R.length = 8) (hf : fair f { x with A := x.A.take n } = true) (hg : fair g { x with A := x.A.take n } = true) : FnOK Tryd.prog gidD 66 10 [vi n, .ptr 2 0, .ptr 3 0] (hl (shI f g x)) (vb (telB f g { x with A := x.A.take n })) (hl (shO f g x)) 10 := by
  refine FnOK.of ok66 (Nat.le_refl _) (Nat.le_refl _) fun M => ?_
  have hT := fn63 f g { x with A := x.A.take n } hR hf hg
  generalize telB f g { x with A := x.A.take n } = z at hT ⊢
  obtain ⟨R, H, A, fuel⟩ := x
  simp only at hR hn
  obtain ⟨r0, r1, r2, r3, r4, r5, r6, r7, hRe⟩ := list8 hR
  unfold shI shO
  unfold caV at hT
  unfold caC at hT ⊢
  simp only at hT ⊢
  rw [hRe] at hT ⊢
  conv => whnf
  repeat (refine cndP_intro (by omega) ?_; conv => whnf)
  rw [show Int.toNat (n : Int) - 0 = n by simp]
  rw [List.length_take, Nat.min_eq_left hn] at hT
  refine callX hT [.old 0, .old 1, .old 4, .old 5, .view 8 0, .view 9 0, .old 6, .old 7] rfl rfl rfl rfl ⟨rfl, ⟨_, rfl, rfl⟩, ⟨_, rfl, rfl⟩, ⟨_, rfl, ge0v H, sub0v 2 H⟩, ⟨_, rfl, takeLe A n, subTake A n⟩, rfl, rfl, trivial⟩ ?_
  conv => whnf
  exact retX [.old 0, .old 1, .old 2, .old 3, .old 4, .old 5, .old 6, .old 7, .old 8, .old 9] (.inl rfl) rfl rfl rfl ⟨⟨_, rfl, rfl⟩, ⟨_, rfl, rfl⟩, ⟨_, rfl, rfl⟩, ⟨_, rfl, rfl⟩, ⟨_, rfl, rfl⟩, ⟨_, rfl, rfl⟩, trivial⟩
theorem fn64 (F : FuncId) (P : Nat → Bool) (N : Nat) (hN : N ≤ 100000) (hR : x.R.length = 8) (hP : ∀ m : Nat, m < N → FnOK Tryd.prog gidD F 10 [vi m, .ptr 2 0, .ptr 3 0] (hl (shI f g x)) (vb (P m)) (hl (shO f g x)) 10)
    (hmono : ∀ i j, i ≤ j → j ≤ N → P i = true → P j = true) : FnOK Tryd.prog gidD 64 10 [vi 0, vi N, .fn F [.ptr 2 0, .ptr 3 0]] (hl (shI f g x)) (vi (leastN P N 0 : Nat)) (hl (shO f g x)) 10 := by
  refine FnOK.of ok64 (Nat.le_refl _) (Nat.le_refl _) fun M => ?_
  obtain ⟨R, H, A, fuel⟩ := x
  simp only at hR
  obtain ⟨r0, r1, r2, r3, r4, r5, r6, r7, hRe⟩ := list8 hR
  unfold shI shO caC at *
  simp only at *
  rw [hRe] at hP ⊢
  conv => whnf
  refine LoopS.ind (S := Nat × Nat) (fun z => [(0, vi z.1), (1, vi z.2), (2, .fn F [.ptr 2 0, .ptr 3 0])])
    (fun _ => hl ((0, .ro shapesV) :: (6, .ro (insCells f)) :: (7, .ro (insCells g)) :: [(2, .cel 39 (vals (nums [r0, r1, r2, r3, r4, r5, r6, r7]) ++ [.sl 8 0 H.length, .sl 9 0 A.length, vi fuel])), (3, .cel 97 [.fn 63 [.ptr 4 0, .ptr 5 0]]), (4, .cel 22 [.sl 6 0 f.length]), (5, .cel 22 [.sl 7 0 g.length]), (8, .row 2 (nums H)), (9, .row 2 (nums A))])) 10
    (fun z => z.1 ≤ z.2 ∧ z.2 ≤ N ∧ (∀ j, j < z.1 → P j = false) ∧ (z.2 < N → P z.2 = true)) (fun z => z.2 - z.1) ?_ (0, N) ⟨Nat.zero_le _, Nat.le_refl _, fun j h => absurd h (Nat.not_lt_zero _), fun h => absurd h (Nat.lt_irrefl _)⟩
  rintro ⟨a, b⟩ ⟨v1, v2, v3, v4⟩ ih
  simp only at v1 v2 v3 v4
  refine LoopS.round rfl ?_
  conv => whnf
  by_cases hlt : a < b
  · refine brT_true (decide_eq_true (by show (a : Int) < b; omega)) ?_
    have hm : IntKind.i64.wrap ((((a, b) : Nat × Nat).fst : Int) + IntKind.i64.wrap ((IntKind.i64.wrap ((((a, b) : Nat × Nat).snd : Int) - ((a, b) : Nat × Nat).fst)).tdiv 2)) = ((a + (b - a) / 2 : Nat) : Int) := by
      show IntKind.i64.wrap ((a : Int) + IntKind.i64.wrap ((IntKind.i64.wrap ((b : Int) - a)).tdiv 2)) = ((a + (b - a) / 2 : Nat) : Int)
      have e1 : IntKind.i64.wrap ((b : Int) - a) = ((b - a : Nat) : Int) := by rw [w64 (by omega) (by omega)]; omega
      have e2 : (((b - a : Nat) : Int)).tdiv 2 = (((b - a) / 2 : Nat) : Int) := rfl
      rw [e1, e2, w64 (z := (((b - a) / 2 : Nat) : Int)) (by omega) (by omega), w64 (by omega) (by omega)]
      rfl
    conv => whnf
    rw [hm]
    have hm1 : a + (b - a) / 2 < b := by omega
    have hm2 : a ≤ a + (b - a) / 2 := by omega
    clear hm
    generalize a + (b - a) / 2 = m at hm1 hm2 ⊢
    have hPm := hP m (by omega)
    cases hv : P m
    · rw [hv] at hPm
      refine callX hPm [.old 0, .old 1, .old 2, .old 3, .old 4, .old 5, .old 6, .old 7, .old 8, .old 9] rfl rfl rfl rfl ⟨rfl, rfl, rfl, ⟨_, rfl, rfl⟩, ⟨_, rfl, rfl⟩, ⟨_, rfl, rfl⟩, ⟨_, rfl, rfl⟩, ⟨_, rfl, rfl⟩, ⟨_, rfl, rfl⟩, trivial⟩ ?_
      conv => whnf
      have hinv : ∀ j, j < m + 1 → P j = false := fun j hj => by
        cases hj2 : P j
        · rfl
        · have := hmono j m (by omega) (by omega) hj2; rw [hv] at this; cases this
      exact LoopS.ren [.old 0, .old 1, .old 2, .old 3, .old 4, .old 5, .old 6, .old 7, .old 8, .old 9] (ih (m + 1, b) ⟨by show m + 1 ≤ b; omega, v2, hinv, v4⟩ (by show b - (m + 1) < b - a; omega)) rfl (by decide) ⟨congrArg (fun z => some (vi z)) (w64s (by omega)).symm, rfl, rfl, trivial⟩ ⟨rfl, rfl, rfl, ⟨_, rfl, rfl⟩, ⟨_, rfl, rfl⟩, ⟨_, rfl, rfl⟩, ⟨_, rfl, rfl⟩, ⟨_, rfl, rfl⟩, ⟨_, rfl, rfl⟩, trivial⟩
    · rw [hv] at hPm
      refine callX hPm [.old 0, .old 1, .old 2, .old 3, .old 4, .old 5, .old 6, .old 7, .old 8, .old 9] rfl rfl rfl rfl ⟨rfl, rfl, rfl, ⟨_, rfl, rfl⟩, ⟨_, rfl, rfl⟩, ⟨_, rfl, rfl⟩, ⟨_, rfl, rfl⟩, ⟨_, rfl, rfl⟩, ⟨_, rfl, rfl⟩, trivial⟩ ?_
      conv => whnf
      exact LoopS.ren [.old 0, .old 1, .old 2, .old 3, .old 4, .old 5, .old 6, .old 7, .old 8, .old 9] (ih (a, m) ⟨hm2, by show m ≤ N; omega, v3, fun _ => hv⟩ (by show m - a < b - a; omega)) rfl (by decide) ⟨rfl, rfl, rfl, trivial⟩ ⟨rfl, rfl, rfl, ⟨_, rfl, rfl⟩, ⟨_, rfl, rfl⟩, ⟨_, rfl, rfl⟩, ⟨_, rfl, rfl⟩, ⟨_, rfl, rfl⟩, ⟨_, rfl, rfl⟩, trivial⟩
  · refine brT_false (decide_eq_false (by show ¬ (a : Int) < b; omega)) ?_
    clear ih
    obtain rfl : a = b := by omega
    conv => whnf
    rw [least_eq v2 v3 v4]
    exact retX [.old 0, .old 1, .old 2, .old 3, .old 4, .old 5, .old 6, .old 7, .old 8, .old 9] (.inl rfl) rfl rfl rfl ⟨⟨_, rfl, rfl⟩, ⟨_, rfl, rfl⟩, ⟨_, rfl, rfl⟩, ⟨_, rfl, rfl⟩, ⟨_, rfl, rfl⟩, ⟨_, rfl, rfl⟩, trivial⟩
end
end Go.Abs
