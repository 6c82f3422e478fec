/- The laws ShrinkSame and ShrinkSwaps. -/
import Derived.Test.YtfeokfaccaenhaaDoorE34
import Derived.Test.YtfeokfaccaenhaaDoorK30
set_option linter.unusedVariables false
set_option linter.unusedSimpArgs false
namespace Go.Abs
open Go.Proofs
set_option maxRecDepth 100000
set_option maxHeartbeats 4000000
-- joinery/joinerylaw20.ShrinkSame
def c9 : C := .seq (.reg none [0, 3] [⟨some 3, none, .box 39 11 (.tmp 1)⟩, ⟨some 4, none, .mv (.const (.bool false))⟩]) (.seq (.seq (.reg none [0, 3, 11] [⟨some 8, none, .mv (.tmp 0)⟩, ⟨some 9, none, .mv (.tmp 0)⟩, ⟨some 10, none, .ld (some 11) (.tmp 3)⟩, ⟨some 11, none, .call 28 [.tmp 8, .tmp 9, .tmp 10]⟩]) (.cond (.tmp 11) (.seq (.reg none [4] [⟨some 12, none, .call 29 []⟩, ⟨some 4, none, .mv (.tmp 12)⟩]) (.ret)) (.skip))) (.seq (.reg none [3, 5, 6, 7] [⟨some 14, none, .mv (.tmp 0)⟩, ⟨some 15, none, .mv (.tmp 0)⟩, ⟨some 16, none, .ld (some 11) (.tmp 3)⟩, ⟨some 17, none, .call 30 [.tmp 14, .tmp 15, .tmp 16]⟩, ⟨some 13, none, .mv (.tmp 17)⟩, ⟨some 18, none, .ext (.tmp 13) 0⟩, ⟨some 19, none, .ext (.tmp 13) 1⟩, ⟨some 20, none, .ext (.tmp 13) 2⟩, ⟨some 5, none, .new 39 [.int .i64 0, .int .i64 0, .int .i64 0, .int .i64 0, .int .i64 0, .int .i64 0, .int .i64 0, .int .i64 0, .slice none 0 0, .slice none 0 0, .int .i64 0]⟩, ⟨none, none, .st 11 (.tmp 5) (.tmp 18)⟩, ⟨some 6, none, .mv (.tmp 19)⟩, ⟨some 7, none, .mv (.tmp 20)⟩]) (.seq (.seq (.reg none [3, 5, 6, 22] [⟨some 21, none, .mv (.tmp 7)⟩, ⟨some 22, none, .bin .neq (.tmp 21) (.const (.int .i64 0))⟩]) (.cond (.tmp 22) (.seq (.reg none [4] [⟨some 23, none, .mv (.tmp 6)⟩, ⟨some 24, none, .bin .eql (.tmp 23) (.const (.int .i64 0))⟩, ⟨some 25, none, .mv (.tmp 24)⟩, ⟨some 26, some (25, true), .ld (some 11) (.tmp 5)⟩, ⟨some 27, some (25, true), .bld 39 [.int .i64 0, .int .i64 0, .int .i64 0, .int .i64 0, .int .i64 0, .int .i64 0, .int .i64 0, .int .i64 0, .slice none 0 0, .slice none 0 0, .int .i64 0] []⟩, ⟨some 28, some (25, true), .call 33 [.tmp 26, .tmp 27]⟩, ⟨some 29, none, .pick (.tmp 25) (.tmp 28) (.const (.bool false))⟩, ⟨some 30, none, .mv (.tmp 29)⟩, ⟨some 31, some (30, true), .call 29 []⟩, ⟨some 32, none, .pick (.tmp 30) (.tmp 31) (.const (.bool false))⟩, ⟨some 4, none, .mv (.tmp 32)⟩]) (.ret)) (.skip))) (.seq (.reg none [4] [⟨some 33, none, .ld (some 11) (.tmp 5)⟩, ⟨some 34, none, .ld (some 11) (.tmp 3)⟩, ⟨some 35, none, .call 33 [.tmp 33, .tmp 34]⟩, ⟨some 36, none, .mv (.tmp 35)⟩, ⟨some 37, some (36, true), .mv (.tmp 6)⟩, ⟨some 38, some (36, true), .bin .eql (.tmp 37) (.const (.int .i64 0))⟩, ⟨some 39, none, .pick (.tmp 36) (.tmp 38) (.const (.bool false))⟩, ⟨some 40, none, .mv (.tmp 39)⟩, ⟨some 41, some (40, true), .call 29 []⟩, ⟨some 42, none, .pick (.tmp 40) (.tmp 41) (.const (.bool false))⟩, ⟨some 4, none, .mv (.tmp 42)⟩]) (.ret)))))
theorem ok9 : tabOk Tryd.prog 9 c9 [.tmp 4] 2 = true := by kernel_rfl
-- joinery/joinerylaw20.ShrinkSwaps
def c8 : C := .seq (.reg none [0, 1, 5] [⟨some 5, none, .box 39 11 (.tmp 2)⟩, ⟨some 6, none, .mv (.const (.bool false))⟩]) (.seq (.seq (.reg none [0, 1, 5, 16] [⟨some 13, none, .mv (.tmp 0)⟩, ⟨some 14, none, .mv (.tmp 1)⟩, ⟨some 15, none, .ld (some 11) (.tmp 5)⟩, ⟨some 16, none, .call 28 [.tmp 13, .tmp 14, .tmp 15]⟩]) (.cond (.tmp 16) (.seq (.reg none [6] [⟨some 17, none, .call 29 []⟩, ⟨some 6, none, .mv (.tmp 17)⟩]) (.ret)) (.skip))) (.seq (.reg none [0, 1, 5, 7, 8, 9] [⟨some 19, none, .mv (.tmp 0)⟩, ⟨some 20, none, .mv (.tmp 1)⟩, ⟨some 21, none, .ld (some 11) (.tmp 5)⟩, ⟨some 22, none, .call 30 [.tmp 19, .tmp 20, .tmp 21]⟩, ⟨some 18, none, .mv (.tmp 22)⟩, ⟨some 23, none, .ext (.tmp 18) 0⟩, ⟨some 24, none, .ext (.tmp 18) 1⟩, ⟨some 25, none, .ext (.tmp 18) 2⟩, ⟨some 7, none, .new 39 [.int .i64 0, .int .i64 0, .int .i64 0, .int .i64 0, .int .i64 0, .int .i64 0, .int .i64 0, .int .i64 0, .slice none 0 0, .slice none 0 0, .int .i64 0]⟩, ⟨none, none, .st 11 (.tmp 7) (.tmp 23)⟩, ⟨some 8, none, .mv (.tmp 24)⟩, ⟨some 9, none, .mv (.tmp 25)⟩]) (.seq (.reg none [7, 8, 9, 10, 11, 12] [⟨some 27, none, .mv (.tmp 1)⟩, ⟨some 28, none, .mv (.tmp 0)⟩, ⟨some 29, none, .ld (some 11) (.tmp 5)⟩, ⟨some 30, none, .call 30 [.tmp 27, .tmp 28, .tmp 29]⟩, ⟨some 26, none, .mv (.tmp 30)⟩, ⟨some 31, none, .ext (.tmp 26) 0⟩, ⟨some 32, none, .ext (.tmp 26) 1⟩, ⟨some 33, none, .ext (.tmp 26) 2⟩, ⟨some 10, none, .new 39 [.int .i64 0, .int .i64 0, .int .i64 0, .int .i64 0, .int .i64 0, .int .i64 0, .int .i64 0, .int .i64 0, .slice none 0 0, .slice none 0 0, .int .i64 0]⟩, ⟨none, none, .st 11 (.tmp 10) (.tmp 31)⟩, ⟨some 11, none, .mv (.tmp 32)⟩, ⟨some 12, none, .mv (.tmp 33)⟩]) (.seq (.reg none [6] [⟨some 34, none, .ld (some 11) (.tmp 7)⟩, ⟨some 35, none, .ld (some 11) (.tmp 10)⟩, ⟨some 36, none, .call 33 [.tmp 34, .tmp 35]⟩, ⟨some 37, none, .mv (.tmp 36)⟩, ⟨some 38, some (37, true), .mv (.tmp 8)⟩, ⟨some 39, some (37, true), .mv (.tmp 11)⟩, ⟨some 40, some (37, true), .bin .eql (.tmp 38) (.tmp 39)⟩, ⟨some 41, none, .pick (.tmp 37) (.tmp 40) (.const (.bool false))⟩, ⟨some 42, none, .mv (.tmp 41)⟩, ⟨some 43, some (42, true), .mv (.tmp 9)⟩, ⟨some 44, some (42, true), .mv (.tmp 12)⟩, ⟨some 45, some (42, true), .bin .eql (.tmp 43) (.tmp 44)⟩, ⟨some 46, none, .pick (.tmp 42) (.tmp 45) (.const (.bool false))⟩, ⟨some 47, none, .mv (.tmp 46)⟩, ⟨some 48, some (47, true), .call 29 []⟩, ⟨some 49, none, .pick (.tmp 47) (.tmp 48) (.const (.bool false))⟩, ⟨some 6, none, .mv (.tmp 49)⟩]) (.ret)))))
theorem ok8 : tabOk Tryd.prog 8 c8 [.tmp 6] 3 = true := by kernel_rfl
theorem preLe {X W : List Int} (h : X = W.take X.length) (hl : X.length ≤ W.length) : 0 + (nums X).length ≤ (vals (nums W)).length := by rw [vnums_len, nums_len]; omega
theorem preSub {t : TypeId} {X W : List Int} (h : X = W.take X.length) (hl : X.length ≤ W.length) : (Blk.own t (vals (nums W))).sub 0 (nums X).length = vals (nums X) := by
  have := subTake W X.length
  rw [← h] at this
  exact this
theorem telB_comm (f g : List Ins) : telB f g = telB g f := by funext c; unfold telB; rw [tellC_comm]
theorem shrinkE_comm (f g : List Ins) (c : Cas) : shrinkE f g c = shrinkE g f c := by unfold shrinkE; rw [telB_comm f g, tellC_comm f g, tellC_comm f g]
theorem shrinkE_self (f : List Ins) (c : Cas) : shrinkE f f c = (c, 0) := by unfold shrinkE; rw [tellC_self]; rfl
theorem shrinkE_small (f g : List Ins) (c : Cas) (h0 : 0 ≤ c.fuel) : Small (shrinkE f g c).1 c := by
  unfold shrinkE
  split
  · exact Small.refl c
  · rename_i h
    exact (shrink_spec (telB f g) c h0 (decide_eq_true h)).1
def zeroC : Cas := ⟨[0, 0, 0, 0, 0, 0, 0, 0], [], [], 0⟩
theorem great20_len {f g : List Ins} {c : Cas} (h : great20 f g c = false) : f.length ≤ 60 ∧ g.length ≤ 60 ∧ c.H.length ≤ 100 ∧ c.A.length ≤ 200 := by
  simp only [great20, great8, Bool.or_eq_false_iff, decide_eq_false_iff_not] at h
  omega
theorem fn9 (f : List Ins) (c : Cas) (hR : c.R.length = 8) : FnOK Tryd.prog gidD 9 5 [.sl 2 0 f.length, caV 3 4 c] (hl [(0, .ro shapesV), (2, .ro (insCells f)), (3, .ro (nums c.H)), (4, .ro (nums c.A))]) (vb true) (hl []) 5 := by
  refine FnOK.of ok9 (Nat.le_refl _) (Nat.le_refl _) fun M => ?_
  have hG := fn28 f f c hR
  have hCn := fn30n f f c hR
  have hCy := fn30 f f c hR
  rw [shrinkE_self] at hCy
  have hK := fn29
  have hS0 := fn33 zeroC zeroC rfl rfl (by decide) (by decide)
  rw [decide_eq_true rfl] at hS0
  by_cases hg : great20 f f c = true
  · rw [hg] at hG
    obtain ⟨R, H, A, fuel⟩ := c
    simp only at hR
    obtain ⟨r0, r1, r2, r3, r4, r5, r6, r7, hRe⟩ := list8 hR
    unfold caV caC at hG ⊢
    simp only at hG ⊢
    rw [hRe] at hG ⊢
    conv => whnf
    refine callX hG [.old 0, .old 1, .old 2, .old 2, .old 3, .old 4] rfl rfl rfl rfl trivial ?_
    conv => whnf
    refine callX hK [.old 0, .old 1] rfl rfl rfl rfl ⟨rfl, trivial⟩ ?_
    conv => whnf
    exact retX [.old 0, .old 1, .old 2, .old 3, .old 4] (.inl rfl) rfl rfl rfl trivial
  have hg : great20 f f c = false := by simpa using hg
  rw [hg] at hG
  obtain ⟨_, _, hH, hA⟩ := great20_len hg
  have hS1 := fn33 c c hR hR (by omega) (by omega)
  rw [decide_eq_true rfl] at hS1
  obtain ⟨R, H, A, fuel⟩ := c
  simp only at hR hCy hCn
  obtain ⟨r0, r1, r2, r3, r4, r5, r6, r7, hRe⟩ := list8 hR
  unfold caV caC at hG hCn hCy hS1 ⊢
  simp only at hG hCn hCy hS1 ⊢
  rw [hRe] at hG hCn hCy hS1 ⊢
  conv => whnf
  refine callX hG [.old 0, .old 1, .old 2, .old 2, .old 3, .old 4] rfl rfl rfl rfl trivial ?_
  conv => whnf
  cases hf : fair f ⟨[r0, r1, r2, r3, r4, r5, r6, r7], H, A, fuel⟩
  · refine callX (hCn (by rw [hf]; rfl)) [.old 0, .old 1, .old 2, .old 2, .old 3, .old 4] rfl rfl rfl rfl ⟨rfl, rfl, rfl, rfl, rfl, trivial⟩ ?_
    conv => whnf
    refine callX hS0 [.old 0, .old 1, .nil, .nil, .nil, .nil] rfl rfl rfl rfl ⟨rfl, rfl, rfl, rfl, trivial⟩ ?_
    conv => whnf
    refine callX hK [.old 0, .old 1] rfl rfl rfl rfl ⟨rfl, trivial⟩ ?_
    conv => whnf
    exact retX [.old 0, .old 1, .old 2, .old 3, .old 4] (.inl rfl) rfl rfl rfl trivial
  · refine callX (hCy hf hf) [.old 0, .old 1, .old 2, .old 2, .old 3, .old 4] rfl rfl rfl rfl ⟨rfl, rfl, rfl, rfl, rfl, trivial⟩ ?_
    conv => whnf
    refine callX hS1 [.old 0, .old 1, .view 6 0, .view 7 0, .old 3, .old 4] rfl rfl rfl rfl ⟨⟨_, rfl, ge0v H, sub0v 2 H⟩, ⟨_, rfl, ge0v A, sub0v 2 A⟩, rfl, rfl, trivial⟩ ?_
    conv => whnf
    refine callX hK [.old 0, .old 1] rfl rfl rfl rfl ⟨rfl, trivial⟩ ?_
    conv => whnf
    exact retX [.old 0, .old 1, .old 2, .old 3, .old 4] (.inl rfl) rfl rfl rfl trivial
theorem fn8 (f g : List Ins) (c : Cas) (hR : c.R.length = 8) : FnOK Tryd.prog gidD 8 6 [.sl 2 0 f.length, .sl 3 0 g.length, caV 4 5 c] (hl [(0, .ro shapesV), (2, .ro (insCells f)), (3, .ro (insCells g)), (4, .ro (nums c.H)), (5, .ro (nums c.A))]) (vb true) (hl []) 6 := by
  refine FnOK.of ok8 (Nat.le_refl _) (Nat.le_refl _) fun M => ?_
  have hG := fn28 f g c hR
  have hC1n := fn30n f g c hR
  have hC1y := fn30 f g c hR
  have hC2n := fn30n g f c hR
  have hC2y := fn30 g f c hR
  rw [← shrinkE_comm f g] at hC2y
  have hK := fn29
  have hS0 := fn33 zeroC zeroC rfl rfl (by decide) (by decide)
  rw [decide_eq_true rfl] at hS0
  by_cases hg : great20 f g c = true
  · rw [hg] at hG
    obtain ⟨R, H, A, fuel⟩ := c
    simp only at hR
    obtain ⟨r0, r1, r2, r3, r4, r5, r6, r7, hRe⟩ := list8 hR
    unfold caV caC at hG ⊢
    simp only at hG ⊢
    rw [hRe] at hG ⊢
    conv => whnf
    refine callX hG [.old 0, .old 1, .old 2, .old 3, .old 4, .old 5] rfl rfl rfl rfl trivial ?_
    conv => whnf
    refine callX hK [.old 0, .old 1] rfl rfl rfl rfl ⟨rfl, trivial⟩ ?_
    conv => whnf
    exact retX [.old 0, .old 1, .old 2, .old 3, .old 4, .old 5] (.inl rfl) rfl rfl rfl trivial
  have hg : great20 f g c = false := by simpa using hg
  rw [hg] at hG
  obtain ⟨_, _, hH, hA⟩ := great20_len hg
  cases hf : (fair f c && fair g c)
  · have hf2 : (fair g c && fair f c) = false := by rw [Bool.and_comm]; exact hf
    have hC1 := hC1n hf
    have hC2 := hC2n hf2
    clear hC1n hC1y hC2n hC2y hf hf2
    obtain ⟨R, H, A, fuel⟩ := c
    simp only at hR
    obtain ⟨r0, r1, r2, r3, r4, r5, r6, r7, hRe⟩ := list8 hR
    unfold caV caC at hG hC1 hC2 ⊢
    simp only at hG hC1 hC2 ⊢
    rw [hRe] at hG hC1 hC2 ⊢
    conv => whnf
    refine callX hG [.old 0, .old 1, .old 2, .old 3, .old 4, .old 5] rfl rfl rfl rfl trivial ?_
    conv => whnf
    refine callX hC1 [.old 0, .old 1, .old 2, .old 3, .old 4, .old 5] rfl rfl rfl rfl ⟨rfl, rfl, rfl, rfl, rfl, trivial⟩ ?_
    conv => whnf
    refine callX hC2 [.old 0, .old 1, .old 3, .old 2, .old 4, .old 5] rfl rfl rfl rfl ⟨rfl, rfl, rfl, rfl, rfl, trivial⟩ ?_
    conv => whnf
    refine callX hS0 [.old 0, .old 1, .nil, .nil, .nil, .nil] rfl rfl rfl rfl ⟨rfl, rfl, rfl, rfl, trivial⟩ ?_
    conv => whnf
    refine callX hK [.old 0, .old 1] rfl rfl rfl rfl ⟨rfl, trivial⟩ ?_
    conv => whnf
    exact retX [.old 0, .old 1, .old 2, .old 3, .old 4, .old 5] (.inl rfl) rfl rfl rfl trivial
  · simp only [Bool.and_eq_true] at hf
    have hC1 := hC1y hf.1 hf.2
    have hC2 := hC2y hf.2 hf.1
    clear hC1n hC1y hC2n hC2y
    have h0 : 0 ≤ c.fuel := by have := hf.1; simp only [fair, caseOk, Bool.and_eq_true, decide_eq_true_eq] at this; exact this.2.2.2.1
    have hsm := shrinkE_small f g c h0
    generalize shrinkE f g c = e at hC1 hC2 hsm
    obtain ⟨x, kd⟩ := e
    simp only at hsm hC1 hC2
    have hxR : x.R.length = 8 := hsm.R.1.trans hR
    have hS1 := fn33 x x hxR hxR (by have := hsm.H.2; omega) (by have := hsm.A.2; omega)
    rw [decide_eq_true rfl] at hS1
    obtain ⟨R, H, A, fuel⟩ := c
    obtain ⟨Q, H2, A2, fuel2⟩ := x
    simp only at hR hxR
    have pH := hsm.H
    have pA := hsm.A
    simp only at pH pA
    obtain ⟨r0, r1, r2, r3, r4, r5, r6, r7, hRe⟩ := list8 hR
    obtain ⟨q0, q1, q2, q3, q4, q5, q6, q7, hQe⟩ := list8 hxR
    unfold caV caC at hG hC1 hC2 hS1 ⊢
    simp only at hG hC1 hC2 hS1 ⊢
    rw [hRe] at hG hC1 hC2 ⊢
    rw [hQe] at hC1 hC2 hS1
    conv => whnf
    refine callX hG [.old 0, .old 1, .old 2, .old 3, .old 4, .old 5] rfl rfl rfl rfl trivial ?_
    conv => whnf
    refine callX hC1 [.old 0, .old 1, .old 2, .old 3, .old 4, .old 5] rfl rfl rfl rfl ⟨rfl, rfl, rfl, rfl, rfl, trivial⟩ ?_
    conv => whnf
    refine callX hC2 [.old 0, .old 1, .old 3, .old 2, .old 4, .old 5] rfl rfl rfl rfl ⟨rfl, rfl, rfl, rfl, rfl, trivial⟩ ?_
    conv => whnf
    refine callX hS1 [.old 0, .old 1, .view 7 0, .view 8 0, .view 10 0, .view 11 0] rfl rfl rfl rfl ⟨⟨_, rfl, preLe pH.1 pH.2, preSub pH.1 pH.2⟩, ⟨_, rfl, preLe pA.1 pA.2, preSub pA.1 pA.2⟩, ⟨_, rfl, preLe pH.1 pH.2, preSub pH.1 pH.2⟩, ⟨_, rfl, preLe pA.1 pA.2, preSub pA.1 pA.2⟩, trivial⟩ ?_
    conv => whnf
    refine brT_true (decide_eq_true rfl) ?_
    conv => whnf
    refine callX hK [.old 0, .old 1] rfl rfl rfl rfl ⟨rfl, trivial⟩ ?_
    conv => whnf
    exact retX [.old 0, .old 1, .old 2, .old 3, .old 4, .old 5] (.inl rfl) rfl rfl rfl trivial
end Go.Abs
