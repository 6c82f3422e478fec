/- Contracts: alloc.Put, joineryref23.put, joineryref23.Put. -/
import Derived.Test.YtfeokfaccaenhaaDoorE7
set_option linter.unusedVariables false
set_option linter.unusedSimpArgs false
namespace Go.Abs
open Go.Proofs
set_option maxRecDepth 100000
set_option maxHeartbeats 1000000
-- joinery/joineryref23.put
def c56 : C := .seq (.reg none [0, 1, 2] [⟨some 6, none, .mv (.const (.slice none 0 0))⟩, ⟨some 7, none, .mv (.const (.int .i64 0))⟩]) (.seq (.seq (.reg none [0, 1, 2, 16] [⟨some 11, none, .mv (.tmp 0)⟩, ⟨some 12, none, .len (.tmp 11)⟩, ⟨some 13, none, .mv (.tmp 2)⟩, ⟨some 14, none, .len (.tmp 13)⟩, ⟨some 15, none, .bin .add (.tmp 12) (.tmp 14)⟩, ⟨some 16, none, .bin .gtr (.tmp 15) (.const (.int .i64 200))⟩]) (.cond (.tmp 16) (.seq (.reg none [6, 7] [⟨some 6, none, .mv (.const (.slice none 0 0))⟩, ⟨some 7, none, .mv (.const (.int .i64 3))⟩]) (.ret)) (.skip))) (.seq (.reg none [0, 1, 2, 8] [⟨some 8, none, .mv (.const (.slice none 0 0))⟩]) (.seq (.seq (.reg none [0, 1, 2, 8, 9] [⟨some 9, none, .mv (.const (.int .i64 0))⟩]) (.block 0 (.loop [0, 1, 2, 8, 9] (.seq (.seq (.reg none [0, 1, 2, 8, 9, 20] [⟨some 17, none, .mv (.tmp 9)⟩, ⟨some 18, none, .mv (.tmp 0)⟩, ⟨some 19, none, .len (.tmp 18)⟩, ⟨some 20, none, .bin .lss (.tmp 17) (.tmp 19)⟩]) (.cond (.tmp 20) (.skip) (.exit 0))) (.seq (.block 1 (.seq (.seq (.reg none [0, 1, 2, 8, 9, 25] [⟨some 23, none, .mv (.tmp 9)⟩, ⟨some 24, none, .mv (.tmp 1)⟩, ⟨some 25, none, .bin .eql (.tmp 23) (.tmp 24)⟩]) (.cond (.tmp 25) (.reg none [0, 1, 2, 8, 9] [⟨some 26, none, .mv (.tmp 8)⟩, ⟨some 27, none, .mv (.tmp 2)⟩, ⟨some 28, none, .app 33 6 (.tmp 26) (.tmp 27)⟩, ⟨some 8, none, .mv (.tmp 28)⟩]) (.skip))) (.seq (.reg none [0, 1, 2, 8, 9, 10] [⟨some 29, none, .mv (.tmp 0)⟩, ⟨some 30, none, .mv (.tmp 9)⟩, ⟨some 31, none, .ia 6 (.tmp 29) (.tmp 30)⟩, ⟨some 32, none, .ld (some 6) (.tmp 31)⟩, ⟨some 10, none, .new 33 [.int .i64 0, .int .i64 0, .int .i64 0, .int .i64 0, .int .i64 0, .int .i64 0]⟩, ⟨none, none, .st 6 (.tmp 10) (.tmp 32)⟩]) (.seq (.seq (.reg none [0, 1, 2, 8, 9, 10, 46] [⟨some 33, none, .fa 0 (.tmp 10)⟩, ⟨some 34, none, .ld none (.tmp 33)⟩, ⟨some 35, none, .bin .eql (.tmp 34) (.const (.int .i64 16))⟩, ⟨some 36, none, .mv (.tmp 35)⟩, ⟨some 37, some (36, false), .fa 0 (.tmp 10)⟩, ⟨some 38, some (36, false), .ld none (.tmp 37)⟩, ⟨some 39, some (36, false), .bin .eql (.tmp 38) (.const (.int .i64 17))⟩, ⟨some 40, none, .pick (.tmp 36) (.const (.bool true)) (.tmp 39)⟩, ⟨some 41, none, .mv (.tmp 40)⟩, ⟨some 42, some (41, true), .fa 5 (.tmp 10)⟩, ⟨some 43, some (41, true), .ld none (.tmp 42)⟩, ⟨some 44, some (41, true), .mv (.tmp 1)⟩, ⟨some 45, some (41, true), .bin .gtr (.tmp 43) (.tmp 44)⟩, ⟨some 46, none, .pick (.tmp 41) (.tmp 45) (.const (.bool false))⟩]) (.cond (.tmp 46) (.reg none [0, 1, 2, 8, 9, 10] [⟨some 47, none, .fa 5 (.tmp 10)⟩, ⟨some 48, none, .ld none (.tmp 47)⟩, ⟨some 49, none, .mv (.tmp 2)⟩, ⟨some 50, none, .len (.tmp 49)⟩, ⟨some 51, none, .bin .add (.tmp 48) (.tmp 50)⟩, ⟨some 52, none, .fa 5 (.tmp 10)⟩, ⟨none, none, .st 1 (.tmp 52) (.tmp 51)⟩]) (.skip))) (.reg none [0, 1, 2, 8, 9] [⟨some 53, none, .mv (.tmp 8)⟩, ⟨some 54, none, .ld (some 6) (.tmp 10)⟩, ⟨some 55, none, .bsl 33 1 6 [.int .i64 0, .int .i64 0, .int .i64 0, .int .i64 0, .int .i64 0, .int .i64 0] [(0, 0, 6, .tmp 54)]⟩, ⟨some 56, none, .app 33 6 (.tmp 53) (.tmp 55)⟩, ⟨some 8, none, .mv (.tmp 56)⟩]))))) (.reg none [0, 1, 2, 8, 9] [⟨some 21, none, .mv (.tmp 9)⟩, ⟨some 22, none, .bin .add (.tmp 21) (.const (.int .i64 1))⟩, ⟨some 9, none, .mv (.tmp 22)⟩])))))) (.seq (.reg none [6, 7] [⟨some 57, none, .mv (.tmp 8)⟩, ⟨some 6, none, .mv (.tmp 57)⟩, ⟨some 7, none, .mv (.const (.int .i64 0))⟩]) (.ret)))))
theorem ok56 : tabOk Tryd.prog 56 c56 [.tmp 6, .tmp 7] 3 = true := by kernel_rfl
-- joinery/joineryref23.Put
def c24 : C := .seq (.reg none [0, 1, 2] [⟨some 6, none, .mv (.const (.slice none 0 0))⟩, ⟨some 7, none, .mv (.const (.int .i64 0))⟩]) (.seq (.seq (.reg none [0, 1, 2, 12] [⟨some 9, none, .mv (.tmp 0)⟩, ⟨some 10, none, .mv (.tmp 1)⟩, ⟨some 11, none, .call 54 [.tmp 9, .tmp 10]⟩, ⟨some 12, none, .un .not (.tmp 11)⟩]) (.cond (.tmp 12) (.seq (.reg none [6, 7] [⟨some 6, none, .mv (.const (.slice none 0 0))⟩, ⟨some 7, none, .mv (.const (.int .i64 1))⟩]) (.ret)) (.skip))) (.seq (.seq (.reg none [0, 1, 2, 8] [⟨some 8, none, .mv (.const (.int .i64 0))⟩]) (.block 0 (.loop [0, 1, 2, 8] (.seq (.seq (.reg none [0, 1, 2, 8, 16] [⟨some 13, none, .mv (.tmp 8)⟩, ⟨some 14, none, .mv (.tmp 2)⟩, ⟨some 15, none, .len (.tmp 14)⟩, ⟨some 16, none, .bin .lss (.tmp 13) (.tmp 15)⟩]) (.cond (.tmp 16) (.skip) (.exit 0))) (.seq (.block 1 (.seq (.reg none [0, 1, 2, 8, 34] [⟨some 19, none, .mv (.tmp 2)⟩, ⟨some 20, none, .mv (.tmp 8)⟩, ⟨some 21, none, .ia 6 (.tmp 19) (.tmp 20)⟩, ⟨some 22, none, .fa 0 (.tmp 21)⟩, ⟨some 23, none, .ld none (.tmp 22)⟩, ⟨some 24, none, .bin .gtr (.tmp 23) (.const (.int .i64 15))⟩, ⟨some 25, none, .mv (.tmp 24)⟩, ⟨some 26, some (25, false), .mv (.tmp 2)⟩, ⟨some 27, some (25, false), .mv (.tmp 8)⟩, ⟨some 28, some (25, false), .ia 6 (.tmp 26) (.tmp 27)⟩, ⟨some 29, some (25, false), .ld (some 6) (.tmp 28)⟩, ⟨some 30, some (25, false), .mv (.tmp 0)⟩, ⟨some 31, some (25, false), .len (.tmp 30)⟩, ⟨some 32, some (25, false), .call 55 [.tmp 29, .tmp 31]⟩, ⟨some 33, some (25, false), .bin .neq (.tmp 32) (.const (.int .i64 0))⟩, ⟨some 34, none, .pick (.tmp 25) (.const (.bool true)) (.tmp 33)⟩]) (.cond (.tmp 34) (.seq (.reg none [6, 7] [⟨some 6, none, .mv (.const (.slice none 0 0))⟩, ⟨some 7, none, .mv (.const (.int .i64 1))⟩]) (.ret)) (.skip)))) (.reg none [0, 1, 2, 8] [⟨some 17, none, .mv (.tmp 8)⟩, ⟨some 18, none, .bin .add (.tmp 17) (.const (.int .i64 1))⟩, ⟨some 8, none, .mv (.tmp 18)⟩])))))) (.seq (.reg none [6, 7] [⟨some 35, none, .mv (.tmp 0)⟩, ⟨some 36, none, .mv (.tmp 1)⟩, ⟨some 37, none, .mv (.tmp 2)⟩, ⟨some 38, none, .call 56 [.tmp 35, .tmp 36, .tmp 37]⟩, ⟨some 39, none, .ext (.tmp 38) 0⟩, ⟨some 40, none, .ext (.tmp 38) 1⟩, ⟨some 6, none, .mv (.tmp 39)⟩, ⟨some 7, none, .mv (.tmp 40)⟩]) (.ret))))
theorem ok24 : tabOk Tryd.prog 24 c24 [.tmp 6, .tmp 7] 3 = true := by kernel_rfl
def okL (l : List Ins) (n : Int) : Bool := l.all fun x => decide (x.op < 16 ∧ insErr x n = 0)
def PutE (f : List Ins) (at_ : Int) (l : List Ins) : List Ins × Int := if hasP f at_ = true then (if okL l f.length = true then putE f at_.toNat l else ([], 1)) else ([], 1)
theorem hasP_nat {f : List Ins} {at_ : Int} (h : hasP f at_ = true) : ∃ k : Nat, at_ = k ∧ k < f.length ∧ right f = true := by
  simp only [hasP, Bool.and_eq_true, decide_eq_true_eq] at h
  exact ⟨at_.toNat, by omega, by omega, h.1⟩
theorem okL_drop {l : List Ins} {n : Int} {i : Nat} {x : Ins} (h : l[i]? = some x) : okL (l.drop i) n = (decide (x.op < 16 ∧ insErr x n = 0) && okL (l.drop (i + 1)) n) := by
  rw [drop_cons h]; rfl
theorem fn23 (f l : List Ins) (at_ : Int) (hf : f.length ≤ 300) (hl : l.length ≤ 300) : FnOK Tryd.prog gidD 23 4 [.sl 2 0 f.length, vi at_, .sl 3 0 l.length]
    (Abs.hl [(0, .ro shapesV), (2, .ro (insCells f)), (3, .ro (insCells l))]) (.tup [.sl 4 0 (PutE f at_ l).1.length, vi (PutE f at_ l).2]) (Abs.hl [(4, .row 33 (insCells (PutE f at_ l).1))]) 5 := by
  refine FnOK.of ok23 (Nat.le_refl _) (by decide) fun M => ?_
  have hlf := insCells_len f
  have hll := insCells_len l
  conv => whnf
  refine callX (fn50 f at_) [.old 0, .old 1, .old 2] rfl rfl rfl rfl ⟨rfl, rfl, trivial⟩ ?_
  conv => whnf
  (first | refine brD_intro (fun h => ?_) (fun h => ?_) | refine brT_intro (fun h => ?_) (fun h => ?_)) <;> conv => whnf
  · have hE : PutE f at_ l = ([], 1) := by unfold PutE; rw [if_neg (by simpa using h)]
    rw [hE]
    exact retX [.old 0, .old 1, .old 2, .old 3, .nil] (.inl rfl) rfl rfl rfl ⟨rfl, trivial⟩
  have hh : hasP f at_ = true := by simpa using h
  obtain ⟨k, rfl, hk, hr⟩ := hasP_nat hh
  have hE : PutE f k l = if okL l f.length = true then putE f k l else ([], 1) := by unfold PutE; rw [if_pos hh]; rfl
  rw [hE]
  refine LoopS.ind (S := Nat) (fun i => [(0, .sl 2 0 f.length), (1, vi k), (2, .sl 3 0 l.length), (14, .sl 3 0 l.length), (15, vi l.length), (16, vi i)])
    (fun i => Abs.hl [(0, .ro shapesV), (2, .ro (insCells f)), (3, .ro (insCells l))]) 4
    (fun i => i ≤ l.length ∧ okL (l.drop i) f.length = okL l f.length) (fun i => l.length - i) ?_ 0 ⟨Nat.zero_le _, rfl⟩
  intro i ⟨hi, hb⟩ ih
  refine LoopS.round rfl ?_
  conv => whnf
  by_cases hlt : i < l.length
  · refine brT_true (decide_eq_true (by omega)) ?_
    obtain ⟨x, hx⟩ : ∃ x, l[i]? = some x := ⟨_, List.getElem?_eq_getElem hlt⟩
    have hd := okL_drop (n := f.length) hx
    conv => whnf
    repeat (refine cndP_intro (by omega) ?_; conv => whnf)
    rw [insAt hx]
    conv => whnf
    refine callX (fn51 x) [.old 0, .old 1] rfl rfl rfl rfl trivial ?_
    conv => whnf
    (first | refine brD_intro (fun h => ?_) (fun h => ?_) | refine brT_intro (fun h => ?_) (fun h => ?_)) <;> conv => whnf
    · have h0 : ¬ okL l f.length = true := by rw [← hb, hd, decide_eq_false (by omega)]; simp
      rw [if_neg h0]
      exact retX [.old 0, .old 1, .old 2, .old 3, .nil] (.inl rfl) rfl rfl rfl ⟨rfl, trivial⟩
    refine callX (fn52 x f.length) [.old 0, .old 1] rfl rfl rfl rfl ⟨rfl, trivial⟩ ?_
    conv => whnf
    (first | refine brD_intro (fun h => ?_) (fun h => ?_) | refine brT_intro (fun h => ?_) (fun h => ?_)) <;> conv => whnf
    · have h0 : ¬ okL l f.length = true := by rw [← hb, hd, decide_eq_false (by omega)]; simp
      rw [if_neg h0]
      exact retX [.old 0, .old 1, .old 2, .old 3, .nil] (.inl rfl) rfl rfl rfl ⟨rfl, trivial⟩
    rw [decide_eq_true (by omega), Bool.true_and, hb] at hd
    refine LoopS.ren [.old 0, .old 1, .old 2, .old 3] (ih (i + 1) ⟨hlt, hd.symm⟩ (by omega)) rfl (by decide) ⟨rfl, rfl, rfl, rfl, rfl, ?_, trivial⟩ ⟨rfl, rfl, rfl, trivial⟩
    exact congrArg (fun z => some (vi z)) (w64i hlt (by omega)).symm
  · refine brT_false (decide_eq_false (by omega)) ?_
    clear ih
    rw [List.drop_of_length_le (by omega)] at hb
    have hb' : okL l f.length = true := hb.symm
    rw [if_pos hb']
    conv => whnf
    refine callX (fn53 f l k (by omega) hf hl) [.old 0, .old 1, .old 2, .old 3] rfl rfl rfl rfl ⟨rfl, rfl, trivial⟩ ?_
    conv => whnf
    exact retX [.old 0, .old 1, .old 2, .old 3, .old 4] (.inl rfl) rfl rfl rfl ⟨⟨_, rfl, rfl⟩, trivial⟩
/-- What the reference has put in, instruction by instruction. -/
def curP (f : List Ins) (at_ : Nat) (l : List Ins) : Nat → List Ins
  | 0 => []
  | i + 1 => (if i = at_ then curP f at_ l i ++ l else curP f at_ l i) ++ (match f[i]? with | some x => [shiftI at_ l.length x] | none => [])
theorem curP_le (f : List Ins) (at_ : Nat) (l : List Ins) : ∀ i, i ≤ at_ → i ≤ f.length → curP f at_ l i = (f.take i).map (shiftI at_ l.length)
  | 0, _, _ => by simp [curP]
  | i + 1, h, h2 => by
    rw [curP, if_neg (by omega), curP_le f at_ l i (by omega) (by omega), List.getElem?_eq_getElem (by omega), take_snoc (List.getElem?_eq_getElem (show i < f.length by omega)), List.map_append]
    rfl
theorem curP_gt (f : List Ins) (at_ : Nat) (l : List Ins) : ∀ i, at_ < i → i ≤ f.length → curP f at_ l i = ((f.take at_).map (shiftI at_ l.length) ++ l) ++ ((f.drop at_).take (i - at_)).map (shiftI at_ l.length)
  | 0, h, _ => absurd h (Nat.not_lt_zero _)
  | i + 1, h, h2 => by
    rw [curP]
    have hx : f[i]? = some f[i] := List.getElem?_eq_getElem (by omega)
    by_cases e : i = at_
    · subst e
      rw [if_pos rfl, curP_le f i l i (Nat.le_refl _) (by omega), hx, show i + 1 - i = 1 by omega, show (f.drop i).take 1 = [f[i]] by rw [drop_cons hx]; rfl]
      rfl
    · have hd : (f.drop at_)[i - at_]? = some f[i] := by rw [List.getElem?_drop, show at_ + (i - at_) = i by omega, hx]
      rw [if_neg e, curP_gt f at_ l i (by omega) (by omega), hx, show i + 1 - at_ = (i - at_) + 1 by omega, take_snoc hd, List.map_append, ← List.append_assoc]
      rfl
theorem curP_all (f : List Ins) (at_ : Nat) (l : List Ins) (h : at_ < f.length) : curP f at_ l f.length = putL f at_ l := by
  rw [curP_gt f at_ l f.length h (Nat.le_refl _), putL, List.take_of_length_le (l := f.drop at_) (by simp)]
theorem curP_len (f : List Ins) (at_ : Nat) (l : List Ins) : ∀ i, (curP f at_ l i).length ≤ i * (l.length + 1)
  | 0 => by simp [curP]
  | i + 1 => by
    have ih := curP_len f at_ l i
    rw [curP, List.length_append, Nat.succ_mul]
    split <;> split <;> simp <;> omega
theorem fn56 (f l : List Ins) (at_ : Nat) (ha : at_ < f.length) (hf : f.length ≤ 300) (hl : l.length ≤ 300) : FnOK Tryd.prog gidD 56 4 [.sl 2 0 f.length, vi at_, .sl 3 0 l.length]
    (Abs.hl [(2, .ro (insCells f)), (3, .ro (insCells l))]) (.tup [.sl 4 0 (putE f at_ l).1.length, vi (putE f at_ l).2]) (Abs.hl [(4, .row 33 (insCells (putE f at_ l).1))]) 5 := by
  refine FnOK.of ok56 (Nat.le_refl _) (by decide) fun M => ?_
  have hlf := insCells_len f
  have hll := insCells_len l
  have hw : IntKind.i64.wrap ((f.length : Int) + l.length) = ((f.length + l.length : Nat) : Int) := by rw [w64 (by omega) (by omega)]; rfl
  conv => whnf
  rw [hw]
  (first | refine brD_intro (fun h => ?_) (fun h => ?_) | refine brT_intro (fun h => ?_) (fun h => ?_)) <;> conv => whnf
  · have hE : putE f at_ l = ([], 3) := if_pos (by omega)
    rw [hE]
    exact retX [.old 0, .old 1, .old 2, .old 3, .nil] (.inl rfl) rfl rfl rfl ⟨rfl, trivial⟩
  have hE : putE f at_ l = (putL f at_ l, 0) := if_neg (by omega)
  rw [hE]
  have hv2 : 0 + l.length * 6 ≤ (FB.ro (insCells l)).blk.cellsV.length := by show _ ≤ (vals _).length; rw [valsIns_len]; omega
  have hv3 : ((FB.ro (insCells l)).blk.sub 0 (l.length * 6)).all V.flat = true := by rw [subIns]; exact flatIns l
  refine LoopS.ren (F2 := [(2, .ro (insCells f)), (3, .ro (insCells l)), (4, .row 33 (insCells (curP f at_ l 0)))]) (fr2 := [(0, .sl 2 0 f.length), (1, vi at_), (2, .sl 3 0 l.length), (8, .sl 4 0 (curP f at_ l 0).length), (9, vi (0 : Nat))]) (n2 := 5)
    [.old 0, .old 1, .old 2, .old 3, .nil] ?_ rfl (by decide) ⟨rfl, rfl, rfl, rfl, rfl, trivial⟩ ⟨rfl, rfl, rfl, trivial⟩
  refine LoopS.ind (S := Nat) (fun i => [(0, .sl 2 0 f.length), (1, vi at_), (2, .sl 3 0 l.length), (8, .sl 4 0 (curP f at_ l i).length), (9, vi i)])
    (fun i => Abs.hl [(2, .ro (insCells f)), (3, .ro (insCells l)), (4, .row 33 (insCells (curP f at_ l i)))]) 5
    (fun i => i ≤ f.length) (fun i => f.length - i) ?_ 0 (Nat.zero_le _)
  intro i hi ih
  refine LoopS.round rfl ?_
  conv => whnf
  by_cases hlt : i < f.length
  · refine brT_true (decide_eq_true (by omega)) ?_
    obtain ⟨x, hx⟩ : ∃ x, f[i]? = some x := ⟨_, List.getElem?_eq_getElem hlt⟩
    have hcl := curP_len f at_ l i
    have hcl2 : i * (l.length + 1) ≤ 300 * 301 := Nat.mul_le_mul (by omega) (by omega)
    have hvl : (vals (insCells (curP f at_ l i))).length = (curP f at_ l i).length * 6 := valsIns_len _
    have hvl2 : (vals (insCells (curP f at_ l i)) ++ (FB.ro (insCells l)).blk.sub 0 (l.length * 6)).length = ((curP f at_ l i).length + l.length) * 6 := by rw [subIns, List.length_append, valsIns_len, valsIns_len]; omega
    have hC : curP f at_ l (i + 1) = (if i = at_ then curP f at_ l i ++ l else curP f at_ l i) ++ [shiftI at_ l.length x] := by rw [curP, hx]
    conv => whnf
    (first | refine brD_intro (fun h => ?_) (fun h => ?_) | refine brT_intro (fun h => ?_) (fun h => ?_)) <;> conv => whnf
    · rw [if_pos (by omega)] at hC
      repeat' first
        | (refine brD_intro (fun h => ?_) (fun h => ?_) <;> conv => whnf)
        | (refine cndP_intro (by first | exact hvl | exact hv2 | exact hv3 | exact hvl2 | omega) ?_; conv => whnf)
        | (rw [insAt hx]; conv => whnf)
      all_goals
        have hCl : (curP f at_ l (i + 1)).length = (curP f at_ l i).length + l.length + 1 := by rw [hC]; simp; omega
        refine LoopS.ren [.old 0, .old 1, .old 2, .old 3, .old 8] (ih (i + 1) hlt (by omega)) rfl (by decide) ⟨rfl, rfl, rfl, by rw [hCl]; rfl, congrArg (fun z => some (vi z)) (w64i hlt (by omega)).symm, trivial⟩ ⟨rfl, rfl, ⟨_, rfl, ?_⟩, trivial⟩
        rw [hC, subIns, ← vals_append, ← insCells_app]
        first
          | (rw [shift_yes (by omega) (by omega)]; exact rowSnoc (by kernel_rfl))
          | (rw [shift_no (by omega)]; exact rowSnoc (by kernel_rfl))
    · rw [if_neg (by omega)] at hC
      repeat' first
        | (refine brD_intro (fun h => ?_) (fun h => ?_) <;> conv => whnf)
        | (refine cndP_intro (by first | exact hvl | omega) ?_; conv => whnf)
        | (rw [insAt hx]; conv => whnf)
      all_goals
        have hCl : (curP f at_ l (i + 1)).length = (curP f at_ l i).length + 1 := by rw [hC]; simp
        refine LoopS.ren [.old 0, .old 1, .old 2, .old 3, .old 7] (ih (i + 1) hlt (by omega)) rfl (by decide) ⟨rfl, rfl, rfl, by rw [hCl]; rfl, congrArg (fun z => some (vi z)) (w64i hlt (by omega)).symm, trivial⟩ ⟨rfl, rfl, ⟨_, rfl, ?_⟩, trivial⟩
        rw [hC]
        first
          | (rw [shift_yes (by omega) (by omega)]; exact rowSnoc (by kernel_rfl))
          | (rw [shift_no (by omega)]; exact rowSnoc (by kernel_rfl))
  · refine brT_false (decide_eq_false (by omega)) ?_
    clear ih
    have hi : i = f.length := by omega
    subst hi
    have hp := curP_all f at_ l ha
    conv => whnf
    rw [← hp]
    exact retX [.old 0, .old 1, .old 2, .old 3, .old 4] (.inl rfl) rfl rfl rfl ⟨⟨_, rfl, rfl⟩, trivial⟩
theorem fn24 (f l : List Ins) (at_ : Int) (hf : f.length ≤ 300) (hl : l.length ≤ 300) : FnOK Tryd.prog gidD 24 4 [.sl 2 0 f.length, vi at_, .sl 3 0 l.length]
    (Abs.hl [(2, .ro (insCells f)), (3, .ro (insCells l))]) (.tup [.sl 4 0 (PutE f at_ l).1.length, vi (PutE f at_ l).2]) (Abs.hl [(4, .row 33 (insCells (PutE f at_ l).1))]) 5 := by
  refine FnOK.of ok24 (Nat.le_refl _) (by decide) fun M => ?_
  have hlf := insCells_len f
  have hll := insCells_len l
  conv => whnf
  refine callX (fn54 f at_) [.old 0, .old 1, .old 2] rfl rfl rfl rfl ⟨rfl, trivial⟩ ?_
  conv => whnf
  (first | refine brD_intro (fun h => ?_) (fun h => ?_) | refine brT_intro (fun h => ?_) (fun h => ?_)) <;> conv => whnf
  · have hE : PutE f at_ l = ([], 1) := by unfold PutE; rw [if_neg (by simpa using h)]
    rw [hE]
    exact retX [.old 0, .old 1, .old 2, .old 3, .nil] (.inl rfl) rfl rfl rfl ⟨rfl, trivial⟩
  have hh : hasP f at_ = true := by simpa using h
  obtain ⟨k, rfl, hk, hr⟩ := hasP_nat hh
  have hE : PutE f k l = if okL l f.length = true then putE f k l else ([], 1) := by unfold PutE; rw [if_pos hh]; rfl
  rw [hE]
  refine LoopS.ind (S := Nat) (fun i => [(0, .sl 2 0 f.length), (1, vi k), (2, .sl 3 0 l.length), (8, vi i)])
    (fun i => Abs.hl [(2, .ro (insCells f)), (3, .ro (insCells l))]) 4
    (fun i => i ≤ l.length ∧ okL (l.drop i) f.length = okL l f.length) (fun i => l.length - i) ?_ 0 ⟨Nat.zero_le _, rfl⟩
  intro i ⟨hi, hb⟩ ih
  refine LoopS.round rfl ?_
  conv => whnf
  by_cases hlt : i < l.length
  · refine brT_true (decide_eq_true (by omega)) ?_
    obtain ⟨x, hx⟩ : ∃ x, l[i]? = some x := ⟨_, List.getElem?_eq_getElem hlt⟩
    have hd := okL_drop (n := f.length) hx
    conv => whnf
    repeat (refine cndP_intro (by omega) ?_; conv => whnf)
    rw [insCell hx 0 (by decide)]
    conv => whnf
    (first | refine brD_intro (fun h => ?_) (fun h => ?_) | refine brT_intro (fun h => ?_) (fun h => ?_)) <;> conv => whnf
    · have h0 : ¬ okL l f.length = true := by rw [← hb, hd, decide_eq_false (by omega)]; simp
      rw [if_neg h0]
      exact retX [.old 0, .old 1, .old 2, .old 3, .nil] (.inl rfl) rfl rfl rfl ⟨rfl, trivial⟩
    repeat (refine cndP_intro (by omega) ?_; conv => whnf)
    rw [insAt hx]
    conv => whnf
    refine callX (fn55 x f.length) [.old 0, .old 1] rfl rfl rfl rfl trivial ?_
    conv => whnf
    (first | refine brD_intro (fun h => ?_) (fun h => ?_) | refine brT_intro (fun h => ?_) (fun h => ?_)) <;> conv => whnf
    · have h0 : ¬ okL l f.length = true := by rw [← hb, hd, decide_eq_false (by omega)]; simp
      rw [if_neg h0]
      exact retX [.old 0, .old 1, .old 2, .old 3, .nil] (.inl rfl) rfl rfl rfl ⟨rfl, trivial⟩
    rw [decide_eq_true (by omega), Bool.true_and, hb] at hd
    refine LoopS.ren [.old 0, .old 1, .old 2, .old 3] (ih (i + 1) ⟨hlt, hd.symm⟩ (by omega)) rfl (by decide) ⟨rfl, rfl, rfl, ?_, trivial⟩ ⟨rfl, rfl, trivial⟩
    exact congrArg (fun z => some (vi z)) (w64i hlt (by omega)).symm
  · refine brT_false (decide_eq_false (by omega)) ?_
    clear ih
    rw [List.drop_of_length_le (by omega)] at hb
    have hb' : okL l f.length = true := hb.symm
    rw [if_pos hb']
    conv => whnf
    refine callX (fn56 f l k hk hf hl) [.old 0, .old 1, .old 2, .old 3] rfl rfl rfl rfl ⟨rfl, rfl, trivial⟩ ?_
    conv => whnf
    exact retX [.old 0, .old 1, .old 2, .old 3, .old 4] (.inl rfl) rfl rfl rfl ⟨⟨_, rfl, rfl⟩, trivial⟩
end Go.Abs
