/- The law AllocCounts. -/
import Derived.Test.YtfeokfaccaenhaaDoorE9
set_option linter.unusedVariables false
set_option linter.unusedSimpArgs false
namespace Go.Abs
open Go.Proofs
set_option maxRecDepth 100000
set_option maxHeartbeats 1000000
-- joinery/joinerylaw23.AllocCounts
def c4 : C := .seq (.reg none [0, 1, 2] [⟨some 6, none, .mv (.const (.bool false))⟩]) (.seq (.seq (.reg none [0, 1, 2, 20] [⟨some 13, none, .mv (.tmp 0)⟩, ⟨some 14, none, .len (.tmp 13)⟩, ⟨some 15, none, .bin .gtr (.tmp 14) (.const (.int .i64 300))⟩, ⟨some 16, none, .mv (.tmp 15)⟩, ⟨some 17, some (16, false), .mv (.tmp 2)⟩, ⟨some 18, some (16, false), .len (.tmp 17)⟩, ⟨some 19, some (16, false), .bin .gtr (.tmp 18) (.const (.int .i64 300))⟩, ⟨some 20, none, .pick (.tmp 16) (.const (.bool true)) (.tmp 19)⟩]) (.cond (.tmp 20) (.seq (.reg none [6] [⟨some 21, none, .call 22 []⟩, ⟨some 6, none, .mv (.tmp 21)⟩]) (.ret)) (.skip))) (.seq (.reg none [0, 1, 2, 7, 8] [⟨some 23, none, .mv (.tmp 0)⟩, ⟨some 24, none, .mv (.tmp 1)⟩, ⟨some 25, none, .mv (.tmp 2)⟩, ⟨some 26, none, .call 23 [.tmp 23, .tmp 24, .tmp 25]⟩, ⟨some 22, none, .mv (.tmp 26)⟩, ⟨some 27, none, .ext (.tmp 22) 0⟩, ⟨some 28, none, .ext (.tmp 22) 1⟩, ⟨some 7, none, .mv (.tmp 27)⟩, ⟨some 8, none, .mv (.tmp 28)⟩]) (.seq (.seq (.reg none [0, 1, 2, 7, 30] [⟨some 29, none, .mv (.tmp 8)⟩, ⟨some 30, none, .bin .neq (.tmp 29) (.const (.int .i64 0))⟩]) (.cond (.tmp 30) (.seq (.reg none [6] [⟨some 31, none, .mv (.tmp 7)⟩, ⟨some 32, none, .len (.tmp 31)⟩, ⟨some 33, none, .bin .eql (.tmp 32) (.const (.int .i64 0))⟩, ⟨some 34, none, .mv (.tmp 33)⟩, ⟨some 35, some (34, true), .call 22 []⟩, ⟨some 36, none, .pick (.tmp 34) (.tmp 35) (.const (.bool false))⟩, ⟨some 6, none, .mv (.tmp 36)⟩]) (.ret)) (.skip))) (.seq (.seq (.reg none [0, 1, 2, 7, 44] [⟨some 37, none, .mv (.tmp 7)⟩, ⟨some 38, none, .len (.tmp 37)⟩, ⟨some 39, none, .mv (.tmp 0)⟩, ⟨some 40, none, .len (.tmp 39)⟩, ⟨some 41, none, .mv (.tmp 2)⟩, ⟨some 42, none, .len (.tmp 41)⟩, ⟨some 43, none, .bin .add (.tmp 40) (.tmp 42)⟩, ⟨some 44, none, .bin .neq (.tmp 38) (.tmp 43)⟩]) (.cond (.tmp 44) (.seq (.reg none [6] [⟨some 6, none, .mv (.const (.bool false))⟩]) (.ret)) (.skip))) (.seq (.seq (.reg none [0, 1, 2, 7, 9] [⟨some 9, none, .mv (.const (.int .i64 0))⟩]) (.block 0 (.loop [0, 1, 2, 7, 9] (.seq (.seq (.reg none [0, 1, 2, 7, 9, 48] [⟨some 45, none, .mv (.tmp 9)⟩, ⟨some 46, none, .mv (.tmp 0)⟩, ⟨some 47, none, .len (.tmp 46)⟩, ⟨some 48, none, .bin .lss (.tmp 45) (.tmp 47)⟩]) (.cond (.tmp 48) (.skip) (.exit 0))) (.seq (.block 1 (.seq (.reg none [0, 1, 2, 7, 9, 10] [⟨some 51, none, .mv (.tmp 0)⟩, ⟨some 52, none, .mv (.tmp 9)⟩, ⟨some 53, none, .ia 6 (.tmp 51) (.tmp 52)⟩, ⟨some 54, none, .ld (some 6) (.tmp 53)⟩, ⟨some 10, none, .new 33 [.int .i64 0, .int .i64 0, .int .i64 0, .int .i64 0, .int .i64 0, .int .i64 0]⟩, ⟨none, none, .st 6 (.tmp 10) (.tmp 54)⟩]) (.seq (.reg none [0, 1, 2, 7, 9, 10, 11] [⟨some 55, none, .mv (.tmp 7)⟩, ⟨some 56, none, .mv (.tmp 9)⟩, ⟨some 57, none, .ia 6 (.tmp 55) (.tmp 56)⟩, ⟨some 58, none, .ld (some 6) (.tmp 57)⟩, ⟨some 11, none, .new 33 [.int .i64 0, .int .i64 0, .int .i64 0, .int .i64 0, .int .i64 0, .int .i64 0]⟩, ⟨none, none, .st 6 (.tmp 11) (.tmp 58)⟩]) (.seq (.seq (.reg none [0, 1, 2, 7, 9, 10, 11, 61] [⟨some 59, none, .mv (.tmp 9)⟩, ⟨some 60, none, .mv (.tmp 1)⟩, ⟨some 61, none, .bin .geq (.tmp 59) (.tmp 60)⟩]) (.cond (.tmp 61) (.reg none [0, 1, 2, 7, 9, 10, 11] [⟨some 62, none, .mv (.tmp 7)⟩, ⟨some 63, none, .mv (.tmp 9)⟩, ⟨some 64, none, .mv (.tmp 2)⟩, ⟨some 65, none, .len (.tmp 64)⟩, ⟨some 66, none, .bin .add (.tmp 63) (.tmp 65)⟩, ⟨some 67, none, .ia 6 (.tmp 62) (.tmp 66)⟩, ⟨some 68, none, .ld (some 6) (.tmp 67)⟩, ⟨none, none, .st 6 (.tmp 11) (.tmp 68)⟩]) (.skip))) (.seq (.reg none [0, 1, 2, 7, 9, 10, 11] [⟨some 69, none, .fa 5 (.tmp 11)⟩, ⟨some 70, none, .ld none (.tmp 69)⟩, ⟨some 71, none, .fa 5 (.tmp 10)⟩, ⟨none, none, .st 1 (.tmp 71) (.tmp 70)⟩]) (.seq (.reg none [0, 1, 2, 7, 9, 74] [⟨some 72, none, .ld (some 6) (.tmp 10)⟩, ⟨some 73, none, .ld (some 6) (.tmp 11)⟩, ⟨some 74, none, .eqs 6 33 true (.tmp 72) (.tmp 73)⟩]) (.cond (.tmp 74) (.seq (.reg none [6] [⟨some 6, none, .mv (.const (.bool false))⟩]) (.ret)) (.skip)))))))) (.reg none [0, 1, 2, 7, 9] [⟨some 49, none, .mv (.tmp 9)⟩, ⟨some 50, none, .bin .add (.tmp 49) (.const (.int .i64 1))⟩, ⟨some 9, none, .mv (.tmp 50)⟩])))))) (.seq (.seq (.reg none [1, 2, 7, 12] [⟨some 12, none, .mv (.const (.int .i64 0))⟩]) (.block 2 (.loop [1, 2, 7, 12] (.seq (.seq (.reg none [1, 2, 7, 12, 78] [⟨some 75, none, .mv (.tmp 12)⟩, ⟨some 76, none, .mv (.tmp 2)⟩, ⟨some 77, none, .len (.tmp 76)⟩, ⟨some 78, none, .bin .lss (.tmp 75) (.tmp 77)⟩]) (.cond (.tmp 78) (.skip) (.exit 2))) (.seq (.block 3 (.seq (.reg (some [[], [0], [0, 1], [0], [], [], [0, 1, 2, 3, 4, 5], [0, 1, 2, 3, 4, 5, 6], [0, 1, 2, 3, 4, 5], [0, 1, 2, 3, 4, 5], []]) [1, 2, 7, 12, 91] [⟨some 81, none, .mv (.tmp 7)⟩, ⟨some 82, none, .mv (.tmp 1)⟩, ⟨some 83, none, .mv (.tmp 12)⟩, ⟨some 84, none, .bin .add (.tmp 82) (.tmp 83)⟩, ⟨some 85, none, .ia 6 (.tmp 81) (.tmp 84)⟩, ⟨some 86, none, .ld (some 6) (.tmp 85)⟩, ⟨some 87, none, .mv (.tmp 2)⟩, ⟨some 88, none, .mv (.tmp 12)⟩, ⟨some 89, none, .ia 6 (.tmp 87) (.tmp 88)⟩, ⟨some 90, none, .ld (some 6) (.tmp 89)⟩, ⟨some 91, none, .eqs 6 33 true (.tmp 86) (.tmp 90)⟩]) (.cond (.tmp 91) (.seq (.reg none [6] [⟨some 6, none, .mv (.const (.bool false))⟩]) (.ret)) (.skip)))) (.reg none [1, 2, 7, 12] [⟨some 79, none, .mv (.tmp 12)⟩, ⟨some 80, none, .bin .add (.tmp 79) (.const (.int .i64 1))⟩, ⟨some 12, none, .mv (.tmp 80)⟩])))))) (.seq (.reg none [6] [⟨some 92, none, .call 22 []⟩, ⟨some 6, none, .mv (.tmp 92)⟩]) (.ret))))))))
theorem ok4 : tabOk Tryd.prog 4 c4 [.tmp 6] 3 = true := by kernel_rfl
theorem Put_cases (f l : List Ins) (at_ : Int) : (∃ e, e ≠ 0 ∧ PutE f at_ l = ([], e)) ∨ ∃ k : Nat, at_ = k ∧ k < f.length ∧ f.length + l.length ≤ 200 ∧ PutE f at_ l = (putL f k l, 0) := by
  unfold PutE
  split
  · rename_i hh
    obtain ⟨k, rfl, hk, hr⟩ := hasP_nat hh
    split
    · unfold putE
      split
      · exact .inl ⟨3, by decide, rfl⟩
      · exact .inr ⟨k, rfl, hk, by omega, rfl⟩
    · exact .inl ⟨1, by decide, rfl⟩
  · exact .inl ⟨1, by decide, rfl⟩
theorem shift_to (at_ m : Int) (x : Ins) : ∃ t, shiftI at_ m x = { x with to := t } := by
  unfold shiftI
  split
  · exact ⟨_, rfl⟩
  · exact ⟨x.to, rfl⟩
theorem putL_len {f l : List Ins} {k : Nat} (h : k < f.length) : (putL f k l).length = f.length + l.length := by simp [putL]; omega
theorem putL_lt {f l : List Ins} {k i : Nat} {x : Ins} (hk : k < f.length) (hx : f[i]? = some x) (hi : i < k) : (putL f k l)[i]? = some (shiftI k l.length x) := by
  unfold putL
  rw [List.append_assoc, List.getElem?_append_left (by simp; omega), List.getElem?_map, List.getElem?_take_of_lt hi, hx]
  rfl
theorem putL_ge {f l : List Ins} {k i : Nat} {x : Ins} (hk : k < f.length) (hx : f[i]? = some x) (hi : k ≤ i) : (putL f k l)[i + l.length]? = some (shiftI k l.length x) := by
  have hlen : ((f.take k).map (shiftI k l.length) ++ l).length = k + l.length := by simp; omega
  unfold putL
  rw [List.getElem?_append_right (by rw [hlen]; omega), hlen, List.getElem?_map, List.getElem?_drop, show k + (i + l.length - (k + l.length)) = i by omega, hx]
  rfl
theorem putL_mid {f l : List Ins} {k j : Nat} (hk : k < f.length) (hj : j < l.length) : (putL f k l)[k + j]? = l[j]? := by
  have hlen : ((f.take k).map (shiftI k l.length)).length = k := by simp; omega
  unfold putL
  rw [List.append_assoc, List.getElem?_append_right (by omega), hlen, show k + j - k = j by omega, List.getElem?_append_left hj]
theorem insAtV {f : List Ins} {i : Nat} {x : Ins} (h : f[i]? = some x) : List.take 6 (List.drop (0 + Int.toNat (i : Int) * 6) (vals (insCells f))) = vals x.cells := by
  rw [← insAt h]
  simp [vals]
theorem wadd {a b : Nat} (h : a + b ≤ 1000000) : IntKind.i64.wrap ((a : Int) + b) = ((a + b : Nat) : Int) := by rw [w64 (by omega) (by omega)]; rfl
theorem fn4 (f l : List Ins) (at_ : Int) : FnOK Tryd.prog gidD 4 4 [.sl 2 0 f.length, vi at_, .sl 3 0 l.length]
    (Abs.hl [(0, .ro shapesV), (2, .ro (insCells f)), (3, .ro (insCells l))]) (vb true) (Abs.hl []) 4 := by
  refine FnOK.of ok4 (Nat.le_refl _) (Nat.le_refl _) fun M => ?_
  have hlf := insCells_len f
  have hll := insCells_len l
  conv => whnf
  by_cases hbig : f.length ≤ 300 ∧ l.length ≤ 300
  · obtain ⟨hf, hl⟩ := hbig
    refine brT_false (decide_eq_false (by omega)) ?_
    conv => whnf
    refine brT_false (decide_eq_false (by omega)) ?_
    conv => whnf
    have hP := fn23 f l at_ hf hl
    rcases Put_cases f l at_ with ⟨e, he, hE⟩ | ⟨k, rfl, hk, hn, hE⟩
    · rw [hE] at hP
      refine callX hP [.old 0, .old 1, .old 2, .old 3] rfl rfl rfl rfl ⟨rfl, rfl, rfl, trivial⟩ ?_
      conv => whnf
      refine brT_true (decide_eq_true he) ?_
      conv => whnf
      refine callX fn22 [.old 0, .old 1] rfl rfl rfl rfl ⟨rfl, trivial⟩ ?_
      conv => whnf
      exact retX [.old 0, .old 1, .old 2, .old 3] (.inl rfl) rfl rfl rfl trivial
    · rw [hE] at hP
      dsimp only at hP
      have hGl := putL_len (l := l) hk
      have G1 := fun i x (hx : f[i]? = some x) (hi : i < k) => putL_lt (l := l) hk hx hi
      have G2 := fun i x (hx : f[i]? = some x) (hi : k ≤ i) => putL_ge (l := l) hk hx hi
      have G3 := fun j (hj : j < l.length) => putL_mid (f := f) hk hj
      generalize putL f k l = G at *
      have hlG : (vals (insCells G)).length = G.length * 6 := valsIns_len G
      refine callX hP [.old 0, .old 1, .old 2, .old 3] rfl rfl rfl rfl ⟨rfl, rfl, rfl, trivial⟩ ?_
      conv => whnf
      rw [wadd (by omega)]
      refine brT_false (decide_eq_false (by omega)) ?_
      conv => whnf
      refine LoopS.ind (S := Nat) (fun i => [(0, .sl 2 0 f.length), (1, vi k), (2, .sl 3 0 l.length), (7, .sl 4 0 G.length), (9, vi i)])
        (fun i => Abs.hl [(4, .row 33 (insCells G)), (0, .ro shapesV), (2, .ro (insCells f)), (3, .ro (insCells l))]) 5 (fun i => i ≤ f.length) (fun i => f.length - i) ?_ 0 (Nat.zero_le _)
      intro i hi ih
      refine LoopS.round rfl ?_
      conv => whnf
      by_cases hlt : i < f.length
      · refine brT_true (decide_eq_true (by omega)) ?_
        obtain ⟨x, hx⟩ : ∃ x, f[i]? = some x := ⟨_, List.getElem?_eq_getElem hlt⟩
        obtain ⟨y, hy⟩ : ∃ y, G[i]? = some y := ⟨_, List.getElem?_eq_getElem (by omega)⟩
        obtain ⟨t, ht⟩ := shift_to k l.length x
        have hcase : (i < k ∧ y = { x with to := t }) ∨ (k ≤ i ∧ G[i + l.length]? = some { x with to := t }) := by
          by_cases hik : i < k
          · have h1 := G1 i x hx hik
            rw [hy, ht] at h1
            exact .inl ⟨hik, Option.some.inj h1⟩
          · have h1 := G2 i x hx (by omega)
            rw [ht] at h1
            exact .inr ⟨by omega, h1⟩
        conv => whnf
        repeat (refine cndP_intro (by omega) ?_; conv => whnf)
        rw [insAt hx]
        conv => whnf
        repeat (refine cndP_intro (by omega) ?_; conv => whnf)
        rw [insAtV hy]
        conv => whnf
        rcases hcase with ⟨hik, rfl⟩ | ⟨hik, hz⟩
        · refine brT_false (decide_eq_false (by omega)) ?_
          conv => whnf
          refine brT_false (by simp [eqInts]) ?_
          conv => whnf
          exact LoopS.ren [.old 0, .old 1, .old 2, .old 3, .old 4] (ih (i + 1) hlt (by omega)) rfl (by decide) ⟨rfl, rfl, rfl, rfl, congrArg (fun z => some (vi z)) (w64i hlt (by omega)).symm, trivial⟩ ⟨⟨_, rfl, rfl⟩, rfl, rfl, rfl, trivial⟩
        · refine brT_true (decide_eq_true (by omega)) ?_
          conv => whnf
          rw [wadd (by omega)]
          repeat (refine cndP_intro (by omega) ?_; conv => whnf)
          rw [insAtV hz]
          conv => whnf
          refine brT_false (by simp [eqInts]) ?_
          conv => whnf
          exact LoopS.ren [.old 0, .old 1, .old 2, .old 3, .old 4] (ih (i + 1) hlt (by omega)) rfl (by decide) ⟨rfl, rfl, rfl, rfl, congrArg (fun z => some (vi z)) (w64i hlt (by omega)).symm, trivial⟩ ⟨⟨_, rfl, rfl⟩, rfl, rfl, rfl, trivial⟩
      · refine brT_false (decide_eq_false (by omega)) ?_
        clear ih
        conv => whnf
        refine LoopS.ind (S := Nat) (fun i => [(1, vi k), (2, .sl 3 0 l.length), (7, .sl 4 0 G.length), (12, vi i)])
          (fun i => Abs.hl [(4, .row 33 (insCells G)), (0, .ro shapesV), (2, .ro (insCells f)), (3, .ro (insCells l))]) 5 (fun i => i ≤ l.length) (fun i => l.length - i) ?_ 0 (Nat.zero_le _)
        intro j hj ih
        refine LoopS.round rfl ?_
        conv => whnf
        by_cases hlt2 : j < l.length
        · refine brT_true (decide_eq_true (by omega)) ?_
          obtain ⟨x, hx⟩ : ∃ x, l[j]? = some x := ⟨_, List.getElem?_eq_getElem hlt2⟩
          have hy : G[k + j]? = some x := by rw [G3 j hlt2, hx]
          conv => whnf
          rw [wadd (by omega)]
          repeat (refine cndP_intro (by omega) ?_; conv => whnf)
          rw [insAtV hy]
          conv => whnf
          repeat (refine cndP_intro (by omega) ?_; conv => whnf)
          rw [insAt hx]
          conv => whnf
          refine brT_false (by simp [eqInts]) ?_
          conv => whnf
          exact LoopS.ren [.old 0, .old 1, .old 2, .old 3, .old 4] (ih (j + 1) hlt2 (by omega)) rfl (by decide) ⟨rfl, rfl, rfl, congrArg (fun z => some (vi z)) (w64i hlt2 (by omega)).symm, trivial⟩ ⟨⟨_, rfl, rfl⟩, rfl, rfl, rfl, trivial⟩
        · refine brT_false (decide_eq_false (by omega)) ?_
          clear ih
          conv => whnf
          refine callX fn22 [.old 0, .old 1] rfl rfl rfl rfl ⟨rfl, trivial⟩ ?_
          conv => whnf
          exact retX [.old 0, .old 1, .old 2, .old 3] (.inl rfl) rfl rfl rfl trivial
  · by_cases hf : (f.length : Int) > 300
    · refine brT_true (decide_eq_true hf) ?_
      conv => whnf
      refine callX fn22 [.old 0, .old 1] rfl rfl rfl rfl ⟨rfl, trivial⟩ ?_
      conv => whnf
      exact retX [.old 0, .old 1, .old 2, .old 3] (.inl rfl) rfl rfl rfl trivial
    · refine brT_false (decide_eq_false hf) ?_
      conv => whnf
      refine brT_true (decide_eq_true (by omega)) ?_
      conv => whnf
      refine callX fn22 [.old 0, .old 1] rfl rfl rfl rfl ⟨rfl, trivial⟩ ?_
      conv => whnf
      exact retX [.old 0, .old 1, .old 2, .old 3] (.inl rfl) rfl rfl rfl trivial
end Go.Abs
