/- The contract of differ.Tell. -/
import Derived.Test.YtfeokfaccaenhaaDoorE30
set_option linter.unusedVariables false
set_option linter.unusedSimpArgs false
namespace Go.Abs
open Go.Proofs
set_option maxRecDepth 100000
set_option maxHeartbeats 4000000
-- joinery/differ.Tell
def c31 : C := .seq (.reg none [0, 1, 5] [⟨some 5, none, .box 39 11 (.tmp 2)⟩, ⟨some 6, none, .mv (.const (.int .i64 0))⟩, ⟨some 7, none, .mv (.const (.int .i64 0))⟩]) (.seq (.reg none [1, 5, 8, 9] [⟨some 16, none, .mv (.tmp 0)⟩, ⟨some 17, none, .ld (some 11) (.tmp 5)⟩, ⟨some 18, none, .call 67 [.tmp 16, .tmp 17]⟩, ⟨some 15, none, .mv (.tmp 18)⟩, ⟨some 19, none, .ext (.tmp 15) 0⟩, ⟨some 20, none, .ext (.tmp 15) 1⟩, ⟨some 8, none, .new 105 [.slice none 0 0, .int .i64 0, .int .i64 0, .slice none 0 0, .int .i64 0, .int .i64 0, .bool false]⟩, ⟨none, none, .st 7 (.tmp 8) (.tmp 19)⟩, ⟨some 9, none, .mv (.tmp 20)⟩]) (.seq (.reg none [8, 9, 10, 11] [⟨some 22, none, .mv (.tmp 1)⟩, ⟨some 23, none, .ld (some 11) (.tmp 5)⟩, ⟨some 24, none, .call 67 [.tmp 22, .tmp 23]⟩, ⟨some 21, none, .mv (.tmp 24)⟩, ⟨some 25, none, .ext (.tmp 21) 0⟩, ⟨some 26, none, .ext (.tmp 21) 1⟩, ⟨some 10, none, .new 105 [.slice none 0 0, .int .i64 0, .int .i64 0, .slice none 0 0, .int .i64 0, .int .i64 0, .bool false]⟩, ⟨none, none, .st 7 (.tmp 10) (.tmp 25)⟩, ⟨some 11, none, .mv (.tmp 26)⟩]) (.seq (.seq (.reg none [8, 10, 32] [⟨some 27, none, .mv (.tmp 9)⟩, ⟨some 28, none, .bin .neq (.tmp 27) (.const (.int .i64 0))⟩, ⟨some 29, none, .mv (.tmp 28)⟩, ⟨some 30, some (29, false), .mv (.tmp 11)⟩, ⟨some 31, some (29, false), .bin .neq (.tmp 30) (.const (.int .i64 0))⟩, ⟨some 32, none, .pick (.tmp 29) (.const (.bool true)) (.tmp 31)⟩]) (.cond (.tmp 32) (.seq (.reg none [6, 7] [⟨some 6, none, .mv (.const (.int .i64 0))⟩, ⟨some 7, none, .mv (.const (.int .i64 1))⟩]) (.ret)) (.skip))) (.seq (.reg (some [[], [0], [], [], [0, 1, 2, 3], [0, 1, 2, 3, 4], [3], [0, 1, 2, 3, 4, 5, 6], [0, 1, 2, 3, 4, 5, 6], [3], [3], [3], [3], [3], [3], [3], [3], [3], [3], [3], [3, 16, 17, 18, 19], [3, 16, 17, 18, 19], [3, 16, 17, 18, 19], [3, 16, 17, 18, 19], [3], [3], [3], [3], [3], [3], [3, 26, 27, 28, 29], [3, 26, 27, 28, 29], [3, 26, 27, 28, 29], [3, 26, 27, 28, 29], [3], [3], [3], [3], [3], [3], [3], [3, 37, 38, 39, 40], [3, 37, 38, 39, 40], [3, 37, 38, 39, 40], [3, 37, 38, 39, 40], [3], [3], [3], [3], [0, 1, 2, 3, 4, 5, 6, 7, 8, 9, 10, 11, 12, 13, 14, 15, 16, 17, 18, 19, 20, 21, 22, 23, 24, 25, 26, 27, 28, 29, 30, 31, 32, 33, 34, 35, 36, 37, 38, 39, 40, 41, 42, 43, 44, 45, 46, 47, 48], [0, 1, 2, 3, 4, 5, 6, 7, 8, 9, 10, 11, 12, 13, 14, 15, 16, 17, 18, 19, 20, 21, 22, 23, 24, 25, 26, 27, 28, 29, 30, 31, 32, 33, 34, 35, 36, 37, 38, 39, 40, 41, 42, 43, 44, 45, 46, 47, 48, 49], [3, 46, 47, 48], [], []]) [12] [⟨some 33, none, .ld (some 7) (.tmp 8)⟩, ⟨some 34, none, .ld (some 7) (.tmp 10)⟩, ⟨some 35, none, .call 68 [.tmp 33, .tmp 34, .func 69]⟩, ⟨some 36, none, .un .not (.tmp 35)⟩, ⟨some 37, none, .ld (some 7) (.tmp 8)⟩, ⟨some 38, none, .ld (some 7) (.tmp 10)⟩, ⟨some 39, none, .call 68 [.tmp 37, .tmp 38, .func 71]⟩, ⟨some 40, none, .fa 0 (.tmp 8)⟩, ⟨some 41, none, .ld (some 6) (.tmp 40)⟩, ⟨some 42, none, .call 72 [.tmp 41]⟩, ⟨some 43, none, .mv (.tmp 42)⟩, ⟨some 44, some (43, true), .fa 0 (.tmp 10)⟩, ⟨some 45, some (43, true), .ld (some 6) (.tmp 44)⟩, ⟨some 46, some (43, true), .call 72 [.tmp 45]⟩, ⟨some 47, none, .pick (.tmp 43) (.tmp 46) (.const (.bool false))⟩, ⟨some 48, none, .mv (.tmp 47)⟩, ⟨some 49, some (48, true), .fa 0 (.tmp 8)⟩, ⟨some 50, some (48, true), .fa 1 (.tmp 49)⟩, ⟨some 51, some (48, true), .fa 0 (.tmp 50)⟩, ⟨some 52, some (48, true), .ld none (.tmp 51)⟩, ⟨some 53, some (48, true), .fa 0 (.tmp 10)⟩, ⟨some 54, some (48, true), .fa 1 (.tmp 53)⟩, ⟨some 55, some (48, true), .fa 0 (.tmp 54)⟩, ⟨some 56, some (48, true), .ld none (.tmp 55)⟩, ⟨some 57, some (48, true), .bin .neq (.tmp 52) (.tmp 56)⟩, ⟨some 58, some (48, true), .mv (.tmp 57)⟩, ⟨some 59, some (58, false), .fa 0 (.tmp 8)⟩, ⟨some 60, some (58, false), .fa 1 (.tmp 59)⟩, ⟨some 61, some (58, false), .fa 1 (.tmp 60)⟩, ⟨some 62, some (58, false), .ld none (.tmp 61)⟩, ⟨some 63, some (58, false), .fa 0 (.tmp 10)⟩, ⟨some 64, some (58, false), .fa 1 (.tmp 63)⟩, ⟨some 65, some (58, false), .fa 1 (.tmp 64)⟩, ⟨some 66, some (58, false), .ld none (.tmp 65)⟩, ⟨some 67, some (58, false), .bin .neq (.tmp 62) (.tmp 66)⟩, ⟨some 68, some (48, true), .pick (.tmp 58) (.const (.bool true)) (.tmp 67)⟩, ⟨some 69, some (48, true), .mv (.tmp 68)⟩, ⟨some 70, some (69, false), .fa 0 (.tmp 8)⟩, ⟨some 71, some (69, false), .fa 1 (.tmp 70)⟩, ⟨some 72, some (69, false), .fa 2 (.tmp 71)⟩, ⟨some 73, some (69, false), .ld none (.tmp 72)⟩, ⟨some 74, some (69, false), .fa 0 (.tmp 10)⟩, ⟨some 75, some (69, false), .fa 1 (.tmp 74)⟩, ⟨some 76, some (69, false), .fa 2 (.tmp 75)⟩, ⟨some 77, some (69, false), .ld none (.tmp 76)⟩, ⟨some 78, some (69, false), .call 73 [.tmp 73, .tmp 77]⟩, ⟨some 79, some (69, false), .un .not (.tmp 78)⟩, ⟨some 80, some (48, true), .pick (.tmp 69) (.const (.bool true)) (.tmp 79)⟩, ⟨some 81, none, .pick (.tmp 48) (.tmp 80) (.const (.bool false))⟩, ⟨some 82, none, .ld (some 7) (.tmp 8)⟩, ⟨some 83, none, .ld (some 7) (.tmp 10)⟩, ⟨some 84, none, .call 68 [.tmp 82, .tmp 83, .func 74]⟩, ⟨some 85, none, .bsl 4 5 1 [.bool false] [(1, 1, 1, .tmp 36), (2, 2, 1, .tmp 39), (3, 3, 1, .tmp 81), (4, 4, 1, .tmp 84)]⟩, ⟨some 12, none, .mv (.tmp 85)⟩]) (.seq (.seq (.reg none [86, 87, 88] [⟨some 86, none, .mv (.tmp 12)⟩, ⟨some 87, none, .len (.tmp 86)⟩, ⟨some 88, none, .mv (.const (.int .i64 0))⟩]) (.block 0 (.loop [86, 87, 88] (.seq (.reg none [86, 87, 88, 89] [⟨some 89, none, .bin .lss (.tmp 88) (.tmp 87)⟩]) (.seq (.cond (.tmp 89) (.skip) (.exit 0)) (.seq (.block 1 (.seq (.reg none [13, 14, 86, 87, 88] [⟨some 90, none, .mv (.tmp 88)⟩, ⟨some 91, none, .ia 1 (.tmp 86) (.tmp 88)⟩, ⟨some 92, none, .ld none (.tmp 91)⟩, ⟨some 13, none, .mv (.tmp 90)⟩, ⟨some 14, none, .mv (.tmp 92)⟩]) (.seq (.reg none [13, 86, 87, 88, 93] [⟨some 93, none, .mv (.tmp 14)⟩]) (.cond (.tmp 93) (.seq (.reg none [6, 7] [⟨some 94, none, .mv (.tmp 13)⟩, ⟨some 6, none, .mv (.tmp 94)⟩, ⟨some 7, none, .mv (.const (.int .i64 0))⟩]) (.ret)) (.skip))))) (.reg none [86, 87, 88] [⟨some 95, none, .bin .add (.tmp 88) (.const (.int .i64 1))⟩, ⟨some 88, none, .mv (.tmp 95)⟩]))))))) (.seq (.reg none [6, 7] [⟨some 6, none, .mv (.const (.int .i64 0))⟩, ⟨some 7, none, .mv (.const (.int .i64 0))⟩]) (.ret)))))))
theorem ok31 : tabOk Tryd.prog 31 c31 [.tmp 6, .tmp 7] 3 = true := by kernel_rfl
theorem run_ev_len {f : List Ins} {A : List Int} (hr : right f = true) : ∀ (k : Nat) (s : Mst) (t : Trc), (runL f A k s t).2.ev.length ≤ t.ev.length + k
  | 0, s, t => Nat.le_refl _
  | k + 1, s, t => by
    simp only [runL]
    split
    · simp only; omega
    · rename_i x hx
      have hop := insErr_op (right_at hr hx)
      have h1 := step_ev_len (s := s) (A := A) hop.1 hop.2
      have h2 : (t.on x (stepX x s A)).ev.length ≤ t.ev.length + 1 := by simp only [Trc.on, List.length_append]; omega
      split
      · have := run_ev_len (A := A) hr k (stepX x s A).1 (t.on x (stepX x s A)); omega
      · simp only; omega
theorem run_heap_len {f : List Ins} {A : List Int} (hr : right f = true) : ∀ (k : Nat) (s : Mst) (t : Trc), Okm f s → t.out.heap.length ≤ 16 → (runL f A k s t).2.out.heap.length ≤ 16
  | 0, s, t, _, h => h
  | k + 1, s, t, hs, h => by
    simp only [runL]
    split
    · exact h
    · rename_i x hx
      have hop := insErr_op (right_at hr hx)
      have hok := step_ok (A := A) hr hs hx
      have h2 : (t.on x (stepX x s A)).out.heap.length ≤ 16 := by
        show (stepX x s A).2.2.heap.length ≤ 16
        rw [step_heap hop.1 hop.2]
        split
        · exact hok.heap
        · simp
      split
      · exact run_heap_len hr k _ _ hok h2
      · exact h2
theorem runC_len {f : List Ins} {c : Cas} (hf : fair f c = true) (hR : c.R.length = 8) : (runC f c).2.ev.length ≤ 5000 ∧ (runC f c).2.out.heap.length ≤ 16 := by
  simp only [fair, Bool.and_eq_true] at hf
  have hb := begin_ok hf.1 hR hf.2
  have h1 := run_ev_len (A := c.A) hf.1 c.fuel.toNat (beginS c) trc0
  have h2 := run_heap_len (A := c.A) hf.1 c.fuel.toNat (beginS c) trc0 hb (by decide)
  have h3 := hf.2
  simp only [caseOk, Bool.and_eq_true, decide_eq_true_eq] at h3
  refine ⟨?_, h2⟩
  have : (runC f c).2.ev.length ≤ trc0.ev.length + c.fuel.toNat := h1
  have : trc0.ev.length = 0 := rfl
  omega
theorem fn31 (f g : List Ins) (c : Cas) (hR : c.R.length = 8) (hf : fair f c = true) (hg : fair g c = true) : FnOK Tryd.prog gidD 31 6 [.sl 2 0 f.length, .sl 3 0 g.length, caV 4 5 c]
    (hl [(0, .ro shapesV), (2, .ro (insCells f)), (3, .ro (insCells g)), (4, .ro (nums c.H)), (5, .ro (nums c.A))]) (.tup [vi (tellC f g c), vi 0]) (hl []) 6 := by
  refine FnOK.of ok31 (Nat.le_refl _) (Nat.le_refl _) fun M => ?_
  have h1 := fn67 f c hR hf
  have h2 := fn67 g c hR hg
  obtain ⟨l1, l2⟩ := runC_len hf hR
  obtain ⟨l3, l4⟩ := runC_len hg hR
  have hT : tellC f g c = tellS ⟨(runC f c).2.ev, (runC f c).2.out, silB f c⟩ ⟨(runC g c).2.ev, (runC g c).2.out, silB g c⟩ := rfl
  rw [hT]
  clear hT
  generalize silB f c = p at h1 ⊢
  generalize silB g c = q at h2 ⊢
  generalize (runC f c).2 = t at h1 l1 l2 ⊢
  generalize (runC g c).2 = u at h2 l3 l4 ⊢
  have e1 := fn68v1 t u p q (by omega) (by omega)
  have e2 := fn68v2 t u p q (by omega) (by omega)
  have e4 := fn68v3 t u p q
  have k1 := fn72 t
  have k2 := fn72 u
  have k3 := fn73 t.out.heap u.out.heap (by omega)
  have hS : tellS ⟨t.ev, t.out, p⟩ ⟨u.ev, u.out, q⟩ = if (!(evLe t.ev u.ev || evLe u.ev t.ev)) = true then 1 else if ((halted t.out && !evLe u.ev t.ev) || (halted u.out && !evLe t.ev u.ev)) = true then 2 else if (halted t.out && (halted u.out && decide (t.out ≠ u.out))) = true then 3 else if ((halted t.out && q) || (halted u.out && p)) = true then 4 else 0 := rfl
  have hO : decide (t.out ≠ u.out) = (decide (t.out.how ≠ u.out.how) || (decide (t.out.value ≠ u.out.value) || !decide (t.out.heap = u.out.heap))) := by
    obtain ⟨_, ⟨a1, a2, a3⟩, _, _⟩ := t
    obtain ⟨_, ⟨b1, b2, b3⟩, _, _⟩ := u
    simp only [ne_eq, Otc.mk.injEq, not_and, Bool.decide_or]
    by_cases x1 : a1 = b1 <;> by_cases x2 : a2 = b2 <;> by_cases x3 : a3 = b3 <;> simp [x1, x2, x3]
  rw [hO] at hS
  rw [hS]
  clear hS hO
  generalize (evLe t.ev u.ev || evLe u.ev t.ev) = b1 at e1 ⊢
  generalize ((halted t.out && !evLe u.ev t.ev) || (halted u.out && !evLe t.ev u.ev)) = b2 at e2 ⊢
  generalize ((halted t.out && q) || (halted u.out && p)) = b4 at e4 ⊢
  generalize halted t.out = ht at k1 ⊢
  generalize halted u.out = hu at k2 ⊢
  generalize hsm : decide (t.out.heap = u.out.heap) = sm at k3 ⊢
  clear hsm
  obtain ⟨R, H, A, fuel⟩ := c
  simp only at hR
  obtain ⟨r0, r1, r2, r3, r4, r5, r6, r7, hRe⟩ := list8 hR
  unfold caV caC at h1 h2 ⊢
  simp only at h1 h2 ⊢
  rw [hRe] at h1 h2 ⊢
  conv => whnf
  refine callX h1 [.old 0, .old 1, .old 2, .old 4, .old 5] rfl rfl rfl rfl ⟨rfl, rfl, rfl, rfl, trivial⟩ ?_
  conv => whnf
  refine callX h2 [.old 0, .old 1, .old 3, .old 4, .old 5] rfl rfl rfl rfl ⟨rfl, rfl, rfl, rfl, trivial⟩ ?_
  conv => whnf
  refine callX e1 [.old 0, .old 1, .view 7 0, .old 8, .view 10 0, .old 11] rfl rfl rfl rfl ⟨⟨_, rfl, by rw [Nat.zero_add]; exact Nat.le_of_eq (vals_length _).symm, subAll _ _⟩, ⟨_, rfl, by rw [Nat.zero_add]; exact Nat.le_of_eq (vals_length _).symm, subAll _ _⟩, trivial⟩ ?_
  conv => whnf
  refine callX e2 [.old 0, .old 1, .view 7 0, .old 8, .view 10 0, .old 11] rfl rfl rfl rfl ⟨⟨_, rfl, by rw [Nat.zero_add]; exact Nat.le_of_eq (vals_length _).symm, subAll _ _⟩, ⟨_, rfl, by rw [Nat.zero_add]; exact Nat.le_of_eq (vals_length _).symm, subAll _ _⟩, trivial⟩ ?_
  conv => whnf
  refine callX k1 [.old 0, .old 1, .old 7, .old 8] rfl rfl rfl rfl trivial ?_
  cases ht
  · conv => whnf
    refine callX e4 [.old 0, .old 1, .old 7, .old 8, .old 10, .old 11] rfl rfl rfl rfl trivial ?_
    conv => whnf
    repeat (refine cndP_intro (by first | exact rfl) ?_; conv => whnf)
    refine LoopS.ren (F2 := [(6, .row 4 (bits [false, !b1, b2, false, b4]))]) (fr2 := [(86, .sl 6 0 5), (87, vi 5), (88, vi 0)]) (n2 := 7) [.old 0, .old 1, .old 2, .old 3, .old 4, .old 5, .old 13] ?_ rfl (by decide) ⟨rfl, rfl, rfl, trivial⟩ ⟨⟨_, rfl, rfl⟩, trivial⟩
    clear e1 e2 e4 k1 k2 k3 h1 h2
    cases b1 <;> cases b2 <;> cases b4
    all_goals
      repeat' first
        | exact retX [.old 0, .old 1, .old 2, .old 3, .old 4, .old 5] (.inl rfl) rfl rfl rfl trivial
        | (refine LoopS.round rfl ?_; conv => whnf)
  conv => whnf
  refine callX k2 [.old 0, .old 1, .old 10, .old 11] rfl rfl rfl rfl trivial ?_
  cases hu
  · conv => whnf
    refine callX e4 [.old 0, .old 1, .old 7, .old 8, .old 10, .old 11] rfl rfl rfl rfl trivial ?_
    conv => whnf
    repeat (refine cndP_intro (by first | exact rfl) ?_; conv => whnf)
    refine LoopS.ren (F2 := [(6, .row 4 (bits [false, !b1, b2, false, b4]))]) (fr2 := [(86, .sl 6 0 5), (87, vi 5), (88, vi 0)]) (n2 := 7) [.old 0, .old 1, .old 2, .old 3, .old 4, .old 5, .old 13] ?_ rfl (by decide) ⟨rfl, rfl, rfl, trivial⟩ ⟨⟨_, rfl, rfl⟩, trivial⟩
    clear e1 e2 e4 k1 k2 k3 h1 h2
    cases b1 <;> cases b2 <;> cases b4
    all_goals
      repeat' first
        | exact retX [.old 0, .old 1, .old 2, .old 3, .old 4, .old 5] (.inl rfl) rfl rfl rfl trivial
        | (refine LoopS.round rfl ?_; conv => whnf)
  conv => whnf
  refine brT_intro (fun hn => ?_) (fun hn => ?_) <;> rw [hn] <;> conv => whnf
  · skip
    refine callX e4 [.old 0, .old 1, .old 7, .old 8, .old 10, .old 11] rfl rfl rfl rfl trivial ?_
    conv => whnf
    repeat (refine cndP_intro (by first | exact rfl) ?_; conv => whnf)
    refine LoopS.ren (F2 := [(6, .row 4 (bits [false, !b1, b2, true, b4]))]) (fr2 := [(86, .sl 6 0 5), (87, vi 5), (88, vi 0)]) (n2 := 7) [.old 0, .old 1, .old 2, .old 3, .old 4, .old 5, .old 13] ?_ rfl (by decide) ⟨rfl, rfl, rfl, trivial⟩ ⟨⟨_, rfl, rfl⟩, trivial⟩
    clear e1 e2 e4 k1 k2 k3 h1 h2
    cases b1 <;> cases b2 <;> cases b4
    all_goals
      repeat' first
        | exact retX [.old 0, .old 1, .old 2, .old 3, .old 4, .old 5] (.inl rfl) rfl rfl rfl trivial
        | (refine LoopS.round rfl ?_; conv => whnf)
  refine brT_intro (fun hv => ?_) (fun hv => ?_) <;> rw [hv] <;> conv => whnf
  · skip
    refine callX e4 [.old 0, .old 1, .old 7, .old 8, .old 10, .old 11] rfl rfl rfl rfl trivial ?_
    conv => whnf
    repeat (refine cndP_intro (by first | exact rfl) ?_; conv => whnf)
    refine LoopS.ren (F2 := [(6, .row 4 (bits [false, !b1, b2, true, b4]))]) (fr2 := [(86, .sl 6 0 5), (87, vi 5), (88, vi 0)]) (n2 := 7) [.old 0, .old 1, .old 2, .old 3, .old 4, .old 5, .old 13] ?_ rfl (by decide) ⟨rfl, rfl, rfl, trivial⟩ ⟨⟨_, rfl, rfl⟩, trivial⟩
    clear e1 e2 e4 k1 k2 k3 h1 h2
    cases b1 <;> cases b2 <;> cases b4
    all_goals
      repeat' first
        | exact retX [.old 0, .old 1, .old 2, .old 3, .old 4, .old 5] (.inl rfl) rfl rfl rfl trivial
        | (refine LoopS.round rfl ?_; conv => whnf)
  · refine callX k3 [.old 0, .old 1, .view 8 0, .view 11 0] rfl rfl rfl rfl ⟨⟨_, rfl, by rw [Nat.zero_add]; exact Nat.le_of_eq (vals_length _).symm, subAll _ _⟩, ⟨_, rfl, by rw [Nat.zero_add]; exact Nat.le_of_eq (vals_length _).symm, subAll _ _⟩, trivial⟩ ?_
    conv => whnf
    refine callX e4 [.old 0, .old 1, .old 7, .old 8, .old 10, .old 11] rfl rfl rfl rfl trivial ?_
    conv => whnf
    repeat (refine cndP_intro (by first | exact rfl) ?_; conv => whnf)
    refine LoopS.ren (F2 := [(6, .row 4 (bits [false, !b1, b2, (!sm), b4]))]) (fr2 := [(86, .sl 6 0 5), (87, vi 5), (88, vi 0)]) (n2 := 7) [.old 0, .old 1, .old 2, .old 3, .old 4, .old 5, .old 13] ?_ rfl (by decide) ⟨rfl, rfl, rfl, trivial⟩ ⟨⟨_, rfl, rfl⟩, trivial⟩
    clear e1 e2 e4 k1 k2 k3 h1 h2
    cases sm <;> cases b1 <;> cases b2 <;> cases b4
    all_goals
      repeat' first
        | exact retX [.old 0, .old 1, .old 2, .old 3, .old 4, .old 5] (.inl rfl) rfl rfl rfl trivial
        | (refine LoopS.round rfl ?_; conv => whnf)
end Go.Abs
