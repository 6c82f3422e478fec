/- The contract of shrink.Case. -/
import Derived.Test.YtfeokfaccaenhaaDoorE32
set_option linter.unusedVariables false
set_option linter.unusedSimpArgs false
namespace Go.Abs
open Go.Proofs
set_option maxRecDepth 100000
set_option maxHeartbeats 8000000
-- joinery/shrink.Case
def c30 : C := .seq (.reg none [3, 4, 5, 6] [⟨some 3, none, .box 22 1 (.tmp 0)⟩, ⟨some 4, none, .box 22 1 (.tmp 1)⟩, ⟨some 5, none, .box 39 11 (.tmp 2)⟩, ⟨some 6, none, .new 39 [.int .i64 0, .int .i64 0, .int .i64 0, .int .i64 0, .int .i64 0, .int .i64 0, .int .i64 0, .int .i64 0, .slice none 0 0, .slice none 0 0, .int .i64 0]⟩, ⟨some 7, none, .mv (.const (.int .i64 0))⟩, ⟨some 8, none, .mv (.const (.int .i64 0))⟩]) (.seq (.reg none [3, 4, 5, 6, 9, 10] [⟨some 16, none, .ld none (.tmp 3)⟩, ⟨some 17, none, .ld none (.tmp 4)⟩, ⟨some 18, none, .ld (some 11) (.tmp 5)⟩, ⟨some 19, none, .call 31 [.tmp 16, .tmp 17, .tmp 18]⟩, ⟨some 15, none, .mv (.tmp 19)⟩, ⟨some 20, none, .ext (.tmp 15) 0⟩, ⟨some 21, none, .ext (.tmp 15) 1⟩, ⟨some 9, none, .mv (.tmp 20)⟩, ⟨some 10, none, .mv (.tmp 21)⟩]) (.seq (.seq (.reg none [3, 4, 5, 6, 9, 10, 23] [⟨some 22, none, .mv (.tmp 10)⟩, ⟨some 23, none, .bin .neq (.tmp 22) (.const (.int .i64 0))⟩]) (.cond (.tmp 23) (.seq (.reg none [6, 7, 8] [⟨some 24, none, .bld 39 [.int .i64 0, .int .i64 0, .int .i64 0, .int .i64 0, .int .i64 0, .int .i64 0, .int .i64 0, .int .i64 0, .slice none 0 0, .slice none 0 0, .int .i64 0] []⟩, ⟨some 25, none, .mv (.tmp 10)⟩, ⟨none, none, .st 11 (.tmp 6) (.tmp 24)⟩, ⟨some 7, none, .mv (.const (.int .i64 0))⟩, ⟨some 8, none, .mv (.tmp 25)⟩]) (.ret)) (.skip))) (.seq (.reg (some [[], [0], [0], [], [0, 1, 2, 3], [0, 1, 2, 3, 4], [0, 1, 2, 3, 4], [], [4, 7], [], [], []]) [3, 4, 5, 6, 9] [⟨some 26, none, .bsl 2 0 1 [.int .i64 0] []⟩, ⟨some 27, none, .fa 8 (.tmp 5)⟩, ⟨some 28, none, .ld none (.tmp 27)⟩, ⟨some 29, none, .app 2 1 (.tmp 26) (.tmp 28)⟩, ⟨some 30, none, .bsl 2 0 1 [.int .i64 0] []⟩, ⟨some 31, none, .fa 9 (.tmp 5)⟩, ⟨some 32, none, .ld none (.tmp 31)⟩, ⟨some 33, none, .app 2 1 (.tmp 30) (.tmp 32)⟩, ⟨some 34, none, .fa 8 (.tmp 5)⟩, ⟨none, none, .st 1 (.tmp 34) (.tmp 29)⟩, ⟨some 35, none, .fa 9 (.tmp 5)⟩, ⟨none, none, .st 1 (.tmp 35) (.tmp 33)⟩]) (.seq (.seq (.reg none [3, 4, 5, 6, 9, 37] [⟨some 36, none, .mv (.tmp 9)⟩, ⟨some 37, none, .bin .eql (.tmp 36) (.const (.int .i64 0))⟩]) (.cond (.tmp 37) (.seq (.reg none [6, 7, 8] [⟨some 38, none, .ld (some 11) (.tmp 5)⟩, ⟨some 39, none, .mv (.tmp 9)⟩, ⟨none, none, .st 11 (.tmp 6) (.tmp 38)⟩, ⟨some 7, none, .mv (.tmp 39)⟩, ⟨some 8, none, .mv (.const (.int .i64 0))⟩]) (.ret)) (.skip))) (.seq (.reg none [3, 4, 5, 6, 11] [⟨some 40, none, .clo 63 [.tmp 3, .tmp 4]⟩, ⟨some 11, none, .new 97 [.nilFunc]⟩, ⟨none, none, .st 1 (.tmp 11) (.tmp 40)⟩]) (.seq (.reg none [3, 4, 5, 6, 11] [⟨some 41, none, .fa 10 (.tmp 5)⟩, ⟨some 42, none, .ld none (.tmp 41)⟩, ⟨some 43, none, .clo 65 [.tmp 5, .tmp 11]⟩, ⟨some 44, none, .call 64 [.const (.int .i64 0), .tmp 42, .tmp 43]⟩, ⟨some 45, none, .fa 10 (.tmp 5)⟩, ⟨none, none, .st 1 (.tmp 45) (.tmp 44)⟩]) (.seq (.reg (some [[], [], [0, 1], [0, 1], [0, 1], [0, 1, 2, 3, 4], [0, 1], [], [], []]) [3, 4, 5, 6, 11] [⟨some 46, none, .fa 9 (.tmp 5)⟩, ⟨some 47, none, .ld none (.tmp 46)⟩, ⟨some 48, none, .fa 9 (.tmp 5)⟩, ⟨some 49, none, .ld none (.tmp 48)⟩, ⟨some 50, none, .len (.tmp 49)⟩, ⟨some 51, none, .clo 66 [.tmp 5, .tmp 11]⟩, ⟨some 52, none, .call 64 [.const (.int .i64 0), .tmp 50, .tmp 51]⟩, ⟨some 53, none, .slc 1 (.tmp 47) none (some (.tmp 52))⟩, ⟨some 54, none, .fa 9 (.tmp 5)⟩, ⟨none, none, .st 1 (.tmp 54) (.tmp 53)⟩]) (.seq (.block 0 (.loop [3, 4, 5, 6, 11] (.seq (.seq (.reg none [3, 4, 5, 6, 11, 58] [⟨some 55, none, .fa 8 (.tmp 5)⟩, ⟨some 56, none, .ld none (.tmp 55)⟩, ⟨some 57, none, .len (.tmp 56)⟩, ⟨some 58, none, .bin .gtr (.tmp 57) (.const (.int .i64 0))⟩]) (.cond (.tmp 58) (.skip) (.exit 0))) (.block 1 (.seq (.reg none [3, 4, 5, 6, 11, 12] [⟨some 59, none, .ld (some 11) (.tmp 5)⟩, ⟨some 12, none, .new 39 [.int .i64 0, .int .i64 0, .int .i64 0, .int .i64 0, .int .i64 0, .int .i64 0, .int .i64 0, .int .i64 0, .slice none 0 0, .slice none 0 0, .int .i64 0]⟩, ⟨none, none, .st 11 (.tmp 12) (.tmp 59)⟩]) (.seq (.reg none [3, 4, 5, 6, 11, 12] [⟨some 60, none, .fa 8 (.tmp 5)⟩, ⟨some 61, none, .ld none (.tmp 60)⟩, ⟨some 62, none, .fa 8 (.tmp 5)⟩, ⟨some 63, none, .ld none (.tmp 62)⟩, ⟨some 64, none, .len (.tmp 63)⟩, ⟨some 65, none, .bin .sub (.tmp 64) (.const (.int .i64 1))⟩, ⟨some 66, none, .slc 1 (.tmp 61) none (some (.tmp 65))⟩, ⟨some 67, none, .fa 8 (.tmp 12)⟩, ⟨none, none, .st 1 (.tmp 67) (.tmp 66)⟩]) (.seq (.seq (.reg none [3, 4, 5, 6, 11, 12, 71] [⟨some 68, none, .ld none (.tmp 11)⟩, ⟨some 69, none, .ld (some 11) (.tmp 12)⟩, ⟨some 70, none, .callv (.tmp 68) [.tmp 69]⟩, ⟨some 71, none, .un .not (.tmp 70)⟩]) (.cond (.tmp 71) (.exit 0) (.skip))) (.reg none [3, 4, 5, 6, 11] [⟨some 72, none, .ld (some 11) (.tmp 12)⟩, ⟨none, none, .st 11 (.tmp 5) (.tmp 72)⟩])))))))) (.seq (.seq (.reg none [3, 4, 5, 6, 11, 73] [⟨some 73, none, .mv (.const (.int .i64 0))⟩]) (.block 2 (.loop [3, 4, 5, 6, 11, 73] (.seq (.reg none [3, 4, 5, 6, 11, 73, 74] [⟨some 74, none, .bin .lss (.tmp 73) (.const (.int .i64 8))⟩]) (.seq (.cond (.tmp 74) (.skip) (.exit 2)) (.seq (.block 3 (.seq (.reg none [3, 4, 5, 6, 11, 13, 73] [⟨some 75, none, .mv (.tmp 73)⟩, ⟨some 13, none, .mv (.tmp 75)⟩]) (.seq (.reg none [3, 4, 5, 6, 11, 13, 14, 73] [⟨some 76, none, .ld (some 11) (.tmp 5)⟩, ⟨some 14, none, .new 39 [.int .i64 0, .int .i64 0, .int .i64 0, .int .i64 0, .int .i64 0, .int .i64 0, .int .i64 0, .int .i64 0, .slice none 0 0, .slice none 0 0, .int .i64 0]⟩, ⟨none, none, .st 11 (.tmp 14) (.tmp 76)⟩]) (.seq (.reg none [3, 4, 5, 6, 11, 14, 73] [⟨some 77, none, .mv (.tmp 13)⟩, ⟨some 78, none, .fa 0 (.tmp 14)⟩, ⟨some 79, none, .iaa 8 1 (.tmp 78) (.tmp 77)⟩, ⟨none, none, .st 1 (.tmp 79) (.const (.int .i64 0))⟩]) (.seq (.reg none [3, 4, 5, 6, 11, 14, 73, 82] [⟨some 80, none, .ld none (.tmp 11)⟩, ⟨some 81, none, .ld (some 11) (.tmp 14)⟩, ⟨some 82, none, .callv (.tmp 80) [.tmp 81]⟩]) (.cond (.tmp 82) (.reg none [3, 4, 5, 6, 11, 73] [⟨some 83, none, .ld (some 11) (.tmp 14)⟩, ⟨none, none, .st 11 (.tmp 5) (.tmp 83)⟩]) (.skip))))))) (.reg none [3, 4, 5, 6, 11, 73] [⟨some 84, none, .bin .add (.tmp 73) (.const (.int .i64 1))⟩, ⟨some 73, none, .mv (.tmp 84)⟩]))))))) (.seq (.reg none [5, 6, 9] [⟨some 86, none, .ld none (.tmp 3)⟩, ⟨some 87, none, .ld none (.tmp 4)⟩, ⟨some 88, none, .ld (some 11) (.tmp 5)⟩, ⟨some 89, none, .call 31 [.tmp 86, .tmp 87, .tmp 88]⟩, ⟨some 85, none, .mv (.tmp 89)⟩, ⟨some 90, none, .ext (.tmp 85) 0⟩, ⟨some 91, none, .ext (.tmp 85) 1⟩, ⟨some 9, none, .mv (.tmp 90)⟩]) (.seq (.reg none [6, 7, 8] [⟨some 92, none, .ld (some 11) (.tmp 5)⟩, ⟨some 93, none, .mv (.tmp 9)⟩, ⟨none, none, .st 11 (.tmp 6) (.tmp 92)⟩, ⟨some 7, none, .mv (.tmp 93)⟩, ⟨some 8, none, .mv (.const (.int .i64 0))⟩]) (.ret))))))))))))
theorem ok30 : tabOk Tryd.prog 30 c30 [.cell 6 39 (some 11), .tmp 7, .tmp 8] 3 = true := by kernel_rfl
theorem fn30n (f g : List Ins) (c : Cas) (hR : c.R.length = 8) (hn : (fair f c && fair g c) = false) : FnOK Tryd.prog gidD 30 6 [.sl 2 0 f.length, .sl 3 0 g.length, caV 4 5 c]
    (hl [(0, .ro shapesV), (2, .ro (insCells f)), (3, .ro (insCells g)), (4, .ro (nums c.H)), (5, .ro (nums c.A))]) (.tup [.agg [vi 0, vi 0, vi 0, vi 0, vi 0, vi 0, vi 0, vi 0, nilV, nilV, vi 0], vi 0, vi 1]) (hl []) 6 := by
  refine FnOK.of ok30 (Nat.le_refl _) (Nat.le_refl _) fun M => ?_
  have hT := fn31n f g c hR hn
  obtain ⟨R, H, A, fuel⟩ := c
  simp only at hR
  obtain ⟨r0, r1, r2, r3, r4, r5, r6, r7, hRe⟩ := list8 hR
  unfold caV caC at hT ⊢
  simp only at hT ⊢
  rw [hRe] at hT ⊢
  conv => whnf
  refine callX hT [.old 0, .old 1, .old 2, .old 3, .old 4, .old 5] rfl rfl rfl rfl ⟨rfl, rfl, rfl, rfl, rfl, trivial⟩ ?_
  conv => whnf
  exact retX [.old 0, .old 1, .old 2, .old 3, .old 4, .old 5] (.inl rfl) rfl rfl rfl trivial
/-- What is left of a case, and what that tells. -/
def shrinkE (f g : List Ins) (c : Cas) : Cas × Int := if tellC f g c = 0 then (c, 0) else (shrinkC (telB f g) c, tellC f g (shrinkC (telB f g) c))
def apartP : List (List Nat) → Keys → Prop
  | n :: nn, k :: ks => (n.all fun j => apartK ((ks[ks.length - 1 - j]?).getD ([], [], [])) k) = true ∧ apartP nn ks
  | [], _ :: _ => False
  | _, [] => True
theorem apart_of : ∀ (nn : List (List Nat)) (acc : Keys), apartP nn acc → apartAll nn acc = true
  | [], [], _ => rfl
  | _ :: _, [], _ => rfl
  | [], _ :: _, h => h.elim
  | n :: nn, k :: ks, h => by simp only [apartAll, Bool.and_eq_true]; exact ⟨h.1, apart_of nn ks h.2⟩
theorem and_ii {a b : Bool} (h1 : a = true) (h2 : b = true) : (a && b) = true := by rw [h1, h2]; rfl
theorem apartP_right {x y : HL × HL × HL} (h1 : disj (chgK x) (tchK y) = true) (h2 : disj (chgK y) (tchK x) = true) : apartK x y = true := by simp [apartK, h1, h2]
theorem disj_chg {c : HL × HL × HL} {b : Nat} {B : Blk} (h1 : lk c.2.1 b = some B) (h2 : lk c.2.2 b = some B) (h : blkSame B B = true) : disj (chgK c) [b] = true := by
  unfold disj chgK
  rw [List.all_eq_true]
  intro x hx
  obtain ⟨_, hp⟩ := List.mem_filter.1 hx
  by_cases e : x = b
  · subst e; rw [h1, h2] at hp; simp [h] at hp
  · simp [e]
theorem fair_small {f : List Ins} {c d : Cas} (h : Small d c) (hf : fair f c = true) : fair f d = true := by
  simp only [fair, Bool.and_eq_true] at hf ⊢
  exact ⟨hf.1, small_ok h hf.2⟩
theorem tel_fuel {f g : List Ins} {c : Cas} (hf : fair f c = true) (hg : fair g c = true) {i j : Nat} (h : i ≤ j) (ht : telB f g { c with fuel := i } = true) : telB f g { c with fuel := j } = true := by
  simp only [fair, Bool.and_eq_true] at hf hg
  unfold telB at ht ⊢
  exact decide_eq_true (tell_mono (side_fuel hf.1 c h) (side_fuel hg.1 c h) (of_decide_eq_true ht))
theorem tel_ans {f g : List Ins} {c : Cas} {i j : Nat} (h : i ≤ j) (ht : telB f g { c with A := c.A.take i } = true) : telB f g { c with A := c.A.take j } = true := by
  unfold telB at ht ⊢
  exact decide_eq_true (tell_mono (side_answers c h) (side_answers c h) (of_decide_eq_true ht))
theorem fn30 (f g : List Ins) (c : Cas) (hR : c.R.length = 8) (hf : fair f c = true) (hg : fair g c = true) : FnOK Tryd.prog gidD 30 6 [.sl 2 0 f.length, .sl 3 0 g.length, caV 4 5 c]
    (hl [(0, .ro shapesV), (2, .ro (insCells f)), (3, .ro (insCells g)), (4, .ro (nums c.H)), (5, .ro (nums c.A))]) (.tup [caV 6 7 (shrinkE f g c).1, vi (shrinkE f g c).2, vi 0]) (hl [(6, .row 2 (nums c.H)), (7, .row 2 (nums c.A))]) 8 := by
  refine FnOK.of ok30 (Nat.le_refl _) (by decide) fun M => ?_
  have hT0 := fn31 f g c hR hf hg
  have hfs : ∀ d, Small d c → fair f d = true := fun d h => fair_small h hf
  have hgs : ∀ d, Small d c → fair g d = true := fun d h => fair_small h hg
  have hok := hf
  simp only [fair, Bool.and_eq_true] at hok
  have hok := hok.2
  simp only [caseOk, Bool.and_eq_true, decide_eq_true_eq] at hok
  obtain ⟨hH, hA, hF0, hF1⟩ := hok
  have hcH : c.H.length ≤ 1000000 := by omega
  have c3 : (FB.ro (nums c.H)).blk.sub 0 (c.H.length * 1) = vals (nums c.H) := subRo' rfl (by simp [nums])
  have c2 : 0 + c.H.length * 1 ≤ (FB.ro (nums c.H)).blk.cellsV.length := by rw [show (FB.ro (nums c.H)).blk.cellsV = vals (nums c.H) from rfl, vnums_len]; omega
  have c4 : ((FB.ro (nums c.H)).blk.sub 0 (c.H.length * 1)).all V.flat = true := by rw [c3]; exact numFlat c.H
  have d3 : (FB.ro (nums c.A)).blk.sub 0 (c.A.length * 1) = vals (nums c.A) := subRo' rfl (by simp [nums])
  have d2 : 0 + c.A.length * 1 ≤ (FB.ro (nums c.A)).blk.cellsV.length := by rw [show (FB.ro (nums c.A)).blk.cellsV = vals (nums c.A) from rfl, vnums_len]; omega
  have d4 : ((FB.ro (nums c.A)).blk.sub 0 (c.A.length * 1)).all V.flat = true := by rw [d3]; exact numFlat c.A
  by_cases h0 : tellC f g c = 0
  · rw [show shrinkE f g c = (c, 0) from if_pos h0]
    rw [h0] at hT0
    obtain ⟨R, H, A, fuel⟩ := c
    simp only at *
    obtain ⟨r0, r1, r2, r3, r4, r5, r6, r7, hRe⟩ := list8 hR
    unfold caV caC at hT0 ⊢
    simp only at hT0 ⊢
    rw [hRe] at hT0 ⊢
    conv => whnf
    refine callX hT0 [.old 0, .old 1, .old 2, .old 3, .old 4, .old 5] rfl rfl rfl rfl ⟨rfl, rfl, rfl, rfl, rfl, trivial⟩ ?_
    conv => whnf
    repeat (refine cndP_intro (by first | omega | exact c2 | exact c4 | exact d2 | exact d4 | exact rfl) ?_; conv => whnf)
    rw [Nat.zero_add H.length, Nat.zero_add A.length]
    exact retX [.old 0, .old 1, .old 2, .old 3, .old 4, .old 5, .old 11, .old 13] (.inl rfl) rfl rfl rfl ⟨⟨_, rfl, by show ([] : List V) ++ _ = _; rw [c3]; rfl⟩, ⟨_, rfl, by show ([] : List V) ++ _ = _; rw [d3]; rfl⟩, trivial⟩
--END
  have hTc : telB f g c = true := decide_eq_true h0
  obtain ⟨R, H, A, fuel⟩ := c
  simp only at *
  obtain ⟨N, rfl⟩ := toNat_nonneg hF0
  have hsF : ∀ m : Nat, m ≤ N → Small ⟨R, H, A, (m : Int)⟩ ⟨R, H, A, (N : Int)⟩ := fun m hm => small_F ⟨R, H, A, (N : Int)⟩ (n := m) (by show (m : Int) ≤ N; omega)
  have L1 := fn64 f g ⟨R, H, A, (N : Int)⟩ 65 (fun n => telB f g ⟨R, H, A, (n : Int)⟩) N (by omega) hR
    (fun m hm => fn65 f g ⟨R, H, A, (N : Int)⟩ m hR (hfs _ (hsF m (by omega))) (hgs _ (hsF m (by omega)))) (fun i j hij _ ht => tel_fuel (c := ⟨R, H, A, (N : Int)⟩) hf hg hij ht)
  have hE : shrinkC (telB f g) ⟨R, H, A, (N : Int)⟩ = zeroR (telB f g) 8 0 (popH (telB f g) H.length (ansC (telB f g) ⟨R, H, A, ((leastN (fun n => telB f g ⟨R, H, A, (n : Int)⟩) N 0 : Nat) : Int)⟩)) := rfl
  have hn1 : leastN (fun n => telB f g ⟨R, H, A, (n : Int)⟩) N 0 ≤ N := by have := (least_spec (fun n => telB f g ⟨R, H, A, (n : Int)⟩) N 0).2.1; omega
  generalize leastN (fun n => telB f g ⟨R, H, A, (n : Int)⟩) N 0 = n1 at L1 hE hn1
  have hs1 := hsF n1 hn1
  have L2 := fn64 f g ⟨R, H, A, (n1 : Int)⟩ 66 (fun n => telB f g ⟨R, H, A.take n, (n1 : Int)⟩) A.length (by omega) hR
    (fun m hm => fn66 f g ⟨R, H, A, (n1 : Int)⟩ m (by show m ≤ A.length; omega) hR (hfs _ ((small_A ⟨R, H, A, (n1 : Int)⟩ m).trans hs1)) (hgs _ ((small_A ⟨R, H, A, (n1 : Int)⟩ m).trans hs1))) (fun i j hij _ ht => tel_ans (c := ⟨R, H, A, (n1 : Int)⟩) hij ht)
  have hE2 : ansC (telB f g) ⟨R, H, A, (n1 : Int)⟩ = ⟨R, H, A.take (leastN (fun n => telB f g ⟨R, H, A.take n, (n1 : Int)⟩) A.length 0), (n1 : Int)⟩ := rfl
  have hn2 : leastN (fun n => telB f g ⟨R, H, A.take n, (n1 : Int)⟩) A.length 0 ≤ A.length := by have := (least_spec (fun n => telB f g ⟨R, H, A.take n, (n1 : Int)⟩) A.length 0).2.1; omega
  rw [hE2] at hE
  clear hE2
  generalize leastN (fun n => telB f g ⟨R, H, A.take n, (n1 : Int)⟩) A.length 0 = n2 at L2 hE hn2
  have hs2 : Small ⟨R, H, A.take n2, (n1 : Int)⟩ ⟨R, H, A, (N : Int)⟩ := (small_A ⟨R, H, A, (n1 : Int)⟩ n2).trans hs1
  rw [show shrinkE f g ⟨R, H, A, (N : Int)⟩ = (shrinkC (telB f g) ⟨R, H, A, (N : Int)⟩, tellC f g (shrinkC (telB f g) ⟨R, H, A, (N : Int)⟩)) from if_neg h0]
  generalize hD : shrinkC (telB f g) ⟨R, H, A, (N : Int)⟩ = D at hE ⊢
  generalize tellC f g ⟨R, H, A, (N : Int)⟩ = z0 at hT0 h0
  obtain ⟨r0, r1, r2, r3, r4, r5, r6, r7, hRe⟩ := list8 hR
  unfold shI shO at L1 L2
  unfold caV at hT0
  unfold caC at hT0 L1 L2
  simp only at hT0 L1 L2
  rw [hRe] at hT0 L1 L2
  rw [show caV 4 5 ⟨R, H, A, (N : Int)⟩ = .agg (vals (nums [r0, r1, r2, r3, r4, r5, r6, r7]) ++ [.sl 4 0 H.length, .sl 5 0 A.length, vi N]) by rw [hRe]; rfl]
  conv => whnf
  refine callX hT0 [.old 0, .old 1, .old 2, .old 3, .old 4, .old 5] rfl rfl rfl rfl ⟨rfl, rfl, rfl, rfl, rfl, trivial⟩ ?_
  conv => whnf
  repeat (refine cndP_intro (by first | omega | exact c2 | exact c4 | exact d2 | exact d4 | exact rfl) ?_; conv => whnf)
  rw [Nat.zero_add H.length, Nat.zero_add A.length]
  refine brT_false (decide_eq_false h0) ?_
  conv => whnf
  rw [c3, d3]
  refine callX L1 [.old 0, .old 1, .old 8, .old 14, .old 6, .old 7, .old 2, .old 3, .old 11, .old 13] rfl rfl rfl rfl ⟨rfl, rfl, rfl, ⟨_, rfl, rfl⟩, ⟨_, rfl, rfl⟩, ⟨_, rfl, rfl⟩, ⟨_, rfl, rfl⟩, ⟨_, rfl, rfl⟩, ⟨_, rfl, rfl⟩, trivial⟩ ?_
  conv => whnf
  refine callX L2 [.old 0, .old 1, .old 8, .old 14, .old 6, .old 7, .old 2, .old 3, .old 11, .old 13] rfl rfl rfl rfl ⟨rfl, rfl, rfl, ⟨_, rfl, rfl⟩, ⟨_, rfl, rfl⟩, ⟨_, rfl, rfl⟩, ⟨_, rfl, rfl⟩, ⟨_, rfl, rfl⟩, ⟨_, rfl, rfl⟩, trivial⟩ ?_
  conv => whnf
  repeat (refine cndP_intro (by omega) ?_; conv => whnf)
  refine cndP_intro (apart_of _ _ ⟨rfl, rfl, rfl, and_ii rfl (and_ii (apartP_right rfl (disj_chg rfl rfl (blk_refl rfl))) rfl), rfl, rfl, rfl, rfl, rfl, rfl, trivial⟩) ?_
  conv => whnf
  rw [show Int.toNat (n2 : Int) - 0 = n2 by simp]
  refine LoopS.ren (F2 := [(0, .ro shapesV), (2, .ro (insCells f)), (3, .ro (insCells g)), (6, .cel 22 [.sl 2 0 f.length]), (7, .cel 22 [.sl 3 0 g.length]), (8, .cel 39 (vals (nums R) ++ [.sl 11 0 H.length, .sl 12 0 n2, vi n1])), (9, .cel 39 [vi 0, vi 0, vi 0, vi 0, vi 0, vi 0, vi 0, vi 0, nilV, nilV, vi 0]), (10, .cel 97 [.fn 63 [.ptr 6 0, .ptr 7 0]]), (11, .row 2 (nums H)), (12, .row 2 (nums A))]) (fr2 := [(3, .ptr 6 0), (4, .ptr 7 0), (5, .ptr 8 0), (6, .ptr 9 0), (11, .ptr 10 0)]) (n2 := 13) [.old 0, .old 1, .old 2, .old 3, .old 4, .old 5, .old 6, .old 7, .old 8, .old 9, .old 14, .old 11, .old 13] ?_ rfl (by decide) ⟨rfl, rfl, rfl, rfl, rfl, trivial⟩ ⟨rfl, rfl, rfl, ⟨_, rfl, rfl⟩, ⟨_, rfl, rfl⟩, ⟨_, rfl, by rw [hRe]; rfl⟩, ⟨_, rfl, rfl⟩, ⟨_, rfl, rfl⟩, ⟨_, rfl, rfl⟩, ⟨_, rfl, rfl⟩, trivial⟩
  refine LoopS.ind (S := Nat) (fun _ => [(3, .ptr 6 0), (4, .ptr 7 0), (5, .ptr 8 0), (6, .ptr 9 0), (11, .ptr 10 0)]) (fun h => hl [(0, .ro shapesV), (2, .ro (insCells f)), (3, .ro (insCells g)), (6, .cel 22 [.sl 2 0 f.length]), (7, .cel 22 [.sl 3 0 g.length]), (8, .cel 39 (vals (nums R) ++ [.sl 11 0 h, .sl 12 0 n2, vi n1])), (9, .cel 39 [vi 0, vi 0, vi 0, vi 0, vi 0, vi 0, vi 0, vi 0, nilV, nilV, vi 0]), (10, .cel 97 [.fn 63 [.ptr 6 0, .ptr 7 0]]), (11, .row 2 (nums H)), (12, .row 2 (nums A))]) 13
    (fun h => h ≤ H.length ∧ D = zeroR (telB f g) 8 0 (popH (telB f g) h ⟨R, H.take h, A.take n2, (n1 : Int)⟩)) (fun h => h) ?_ H.length ⟨Nat.le_refl _, by rw [List.take_length]; exact hE⟩
  clear hE
  intro h ⟨hle, hDp⟩ ih
  refine LoopS.round rfl ?_
  have hsh : Small ⟨R, H.take h, A.take n2, (n1 : Int)⟩ ⟨R, H, A, (N : Int)⟩ := (small_H ⟨R, H, A.take n2, (n1 : Int)⟩ h).trans hs2
  rw [show nums R = nums [r0, r1, r2, r3, r4, r5, r6, r7] by rw [hRe]]
  conv => whnf
  cases h with
  | zero =>
    have hDz : D = zeroR (telB f g) (8 - 0) 0 ⟨R, H.take 0, A.take n2, (n1 : Int)⟩ := hDp
    have hsz := hsh
    clear ih
    conv => whnf
    refine LoopS.ren (F2 := [(0, .ro shapesV), (2, .ro (insCells f)), (3, .ro (insCells g)), (6, .cel 22 [.sl 2 0 f.length]), (7, .cel 22 [.sl 3 0 g.length]), (8, .cel 39 (vals (nums R) ++ [.sl 11 0 0, .sl 12 0 n2, vi n1])), (9, .cel 39 [vi 0, vi 0, vi 0, vi 0, vi 0, vi 0, vi 0, vi 0, nilV, nilV, vi 0]), (10, .cel 97 [.fn 63 [.ptr 6 0, .ptr 7 0]]), (11, .row 2 (nums H)), (12, .row 2 (nums A))]) (fr2 := [(3, .ptr 6 0), (4, .ptr 7 0), (5, .ptr 8 0), (6, .ptr 9 0), (11, .ptr 10 0), (73, vi (0 : Nat))]) (n2 := 13) [.old 0, .old 1, .old 2, .old 3, .old 4, .old 5, .old 6, .old 7, .old 8, .old 9, .old 10, .old 11, .old 12] ?_ rfl (by decide) ⟨rfl, rfl, rfl, rfl, rfl, rfl, trivial⟩ ⟨rfl, rfl, rfl, ⟨_, rfl, rfl⟩, ⟨_, rfl, rfl⟩, ⟨_, rfl, by rw [hRe]; rfl⟩, ⟨_, rfl, rfl⟩, ⟨_, rfl, rfl⟩, ⟨_, rfl, rfl⟩, ⟨_, rfl, rfl⟩, trivial⟩
    refine LoopS.ind (S := Nat × List Int) (fun x => [(3, .ptr 6 0), (4, .ptr 7 0), (5, .ptr 8 0), (6, .ptr 9 0), (11, .ptr 10 0), (73, vi x.1)]) (fun x => hl [(0, .ro shapesV), (2, .ro (insCells f)), (3, .ro (insCells g)), (6, .cel 22 [.sl 2 0 f.length]), (7, .cel 22 [.sl 3 0 g.length]), (8, .cel 39 (vals (nums x.2) ++ [.sl 11 0 0, .sl 12 0 n2, vi n1])), (9, .cel 39 [vi 0, vi 0, vi 0, vi 0, vi 0, vi 0, vi 0, vi 0, nilV, nilV, vi 0]), (10, .cel 97 [.fn 63 [.ptr 6 0, .ptr 7 0]]), (11, .row 2 (nums H)), (12, .row 2 (nums A))]) 13
      (fun x => x.2.length = 8 ∧ x.1 ≤ 8 ∧ D = zeroR (telB f g) (8 - x.1) x.1 ⟨x.2, H.take 0, A.take n2, (n1 : Int)⟩ ∧ Small ⟨x.2, H.take 0, A.take n2, (n1 : Int)⟩ ⟨R, H, A, (N : Int)⟩) (fun x => 8 - x.1) ?_ (0, R) ⟨hR, Nat.zero_le _, hDz, hsz⟩
    clear hDz hsz
    rintro ⟨i, Q⟩ ⟨hQ, hi, hDz, hsm⟩ ih
    simp only at hQ hi hDz hsm
    obtain ⟨q0, q1, q2, q3, q4, q5, q6, q7, hQe⟩ := list8 hQ
    refine LoopS.round rfl ?_
    by_cases hlt : i < 8
    · have hX := small_R ⟨Q, H.take 0, A.take n2, (n1 : Int)⟩ i
      have hTz := fn63 f g ⟨Q.set i 0, H.take 0, A.take n2, (n1 : Int)⟩ (by rw [List.length_set]; exact hQ) (hfs _ (hX.trans hsm)) (hgs _ (hX.trans hsm))
      rw [show 8 - i = (8 - (i + 1)) + 1 by omega, zeroR] at hDz
      generalize telB f g ⟨Q.set i 0, H.take 0, A.take n2, (n1 : Int)⟩ = z at hTz hDz
      have hsm2 := hX.trans hsm
      unfold caV caC at hTz
      simp only [List.length_take] at hTz
      rw [Nat.min_eq_left hle, Nat.min_eq_left hn2] at hTz
      have hi8 : i = 0 ∨ i = 1 ∨ i = 2 ∨ i = 3 ∨ i = 4 ∨ i = 5 ∨ i = 6 ∨ i = 7 := by omega
      rw [hQe] at hTz
      dsimp only
      rw [show nums Q = nums [q0, q1, q2, q3, q4, q5, q6, q7] by rw [hQe]]
      rcases hi8 with rfl | rfl | rfl | rfl | rfl | rfl | rfl | rfl
      all_goals
        conv => whnf
        refine callX hTz [.old 0, .old 1, .old 6, .old 7, .view 11 0, .view 12 0, .old 2, .old 3] rfl rfl rfl rfl ⟨rfl, ⟨_, rfl, rfl⟩, ⟨_, rfl, rfl⟩, ⟨_, rfl, takeLe H 0, subTake H 0⟩, ⟨_, rfl, takeLe A n2, subTake A n2⟩, rfl, rfl, trivial⟩ ?_
        cases z
        · conv => whnf
          exact LoopS.ren [.old 0, .old 1, .old 2, .old 3, .old 4, .old 5, .old 6, .old 7, .old 8, .old 9, .old 10, .old 11, .old 12] (ih (_ + 1, Q) ⟨hQ, hlt, hDz, hsm⟩ (by dsimp only; omega)) rfl (by decide) ⟨rfl, rfl, rfl, rfl, rfl, rfl, trivial⟩ ⟨rfl, rfl, rfl, ⟨_, rfl, rfl⟩, ⟨_, rfl, rfl⟩, ⟨_, rfl, by rw [hQe]; rfl⟩, ⟨_, rfl, rfl⟩, ⟨_, rfl, rfl⟩, ⟨_, rfl, rfl⟩, ⟨_, rfl, rfl⟩, trivial⟩
        · conv => whnf
          exact LoopS.ren [.old 0, .old 1, .old 2, .old 3, .old 4, .old 5, .old 6, .old 7, .old 8, .old 9, .old 10, .old 11, .old 12] (ih (_ + 1, Q.set _ 0) ⟨by rw [List.length_set]; exact hQ, hlt, hDz, hsm2⟩ (by dsimp only; omega)) rfl (by decide) ⟨rfl, rfl, rfl, rfl, rfl, rfl, trivial⟩ ⟨rfl, rfl, rfl, ⟨_, rfl, rfl⟩, ⟨_, rfl, rfl⟩, ⟨_, rfl, by rw [hQe]; rfl⟩, ⟨_, rfl, rfl⟩, ⟨_, rfl, rfl⟩, ⟨_, rfl, rfl⟩, ⟨_, rfl, rfl⟩, trivial⟩
    · obtain rfl : i = 8 := by omega
      clear ih
      have hDe : D = ⟨Q, H.take 0, A.take n2, (n1 : Int)⟩ := hDz
      have hTf := fn31 f g ⟨Q, H.take 0, A.take n2, (n1 : Int)⟩ hQ (hfs _ hsm) (hgs _ hsm)
      rw [hDe]
      generalize tellC f g ⟨Q, H.take 0, A.take n2, (n1 : Int)⟩ = kf at hTf ⊢
      unfold caV caC at hTf ⊢
      simp only [List.length_take] at hTf ⊢
      rw [Nat.min_eq_left hle, Nat.min_eq_left hn2] at hTf ⊢
      rw [hQe] at hTf
      rw [show nums Q = nums [q0, q1, q2, q3, q4, q5, q6, q7] by rw [hQe]]
      conv => whnf
      refine callX hTf [.old 0, .old 1, .old 2, .old 3, .view 11 0, .view 12 0] rfl rfl rfl rfl ⟨rfl, rfl, rfl, ⟨_, rfl, takeLe H 0, subTake H 0⟩, ⟨_, rfl, takeLe A n2, subTake A n2⟩, trivial⟩ ?_
      conv => whnf
      exact retX [.old 0, .old 1, .old 2, .old 3, .old 4, .old 5, .old 11, .old 12] (.inl rfl) rfl rfl rfl ⟨⟨_, rfl, rfl⟩, ⟨_, rfl, rfl⟩, trivial⟩

  | succ m =>
    refine brT_true (decide_eq_true (by omega)) ?_
    have hsm0 := small_H ⟨R, H.take (m + 1), A.take n2, (n1 : Int)⟩ m
    have htt : (H.take (m + 1)).take m = H.take m := by rw [List.take_take, Nat.min_eq_left (by omega)]
    simp only at hsm0
    rw [htt] at hsm0
    have hTz := fn63 f g ⟨R, H.take m, A.take n2, (n1 : Int)⟩ hR (hfs _ (hsm0.trans hsh)) (hgs _ (hsm0.trans hsh))
    rw [popH] at hDp
    simp only [htt] at hDp
    generalize telB f g ⟨R, H.take m, A.take n2, (n1 : Int)⟩ = z at hTz hDp
    unfold caV caC at hTz
    simp only [List.length_take] at hTz
    rw [Nat.min_eq_left (by omega : m ≤ H.length), Nat.min_eq_left hn2] at hTz
    rw [hRe] at hTz
    have hwm : IntKind.i64.wrap (((m + 1 : Nat) : Int) - 1) = (m : Int) := by rw [w64 (by omega) (by omega)]; omega
    conv => whnf
    rw [hwm]
    repeat (refine cndP_intro (by first | omega | exact rfl) ?_; conv => whnf)
    rw [show Int.toNat (m : Int) - 0 = m by simp]
    refine callX hTz [.old 0, .old 1, .old 6, .old 7, .view 11 0, .view 12 0, .old 2, .old 3] rfl rfl rfl rfl ⟨rfl, ⟨_, rfl, rfl⟩, ⟨_, rfl, rfl⟩, ⟨_, rfl, takeLe H m, subTake H m⟩, ⟨_, rfl, takeLe A n2, subTake A n2⟩, rfl, rfl, trivial⟩ ?_
    cases z
    · conv => whnf
      have hDz : D = zeroR (telB f g) (8 - 0) 0 ⟨R, H.take (m + 1), A.take n2, (n1 : Int)⟩ := hDp
      have hsz := hsh
      clear ih
      refine LoopS.ren (F2 := [(0, .ro shapesV), (2, .ro (insCells f)), (3, .ro (insCells g)), (6, .cel 22 [.sl 2 0 f.length]), (7, .cel 22 [.sl 3 0 g.length]), (8, .cel 39 (vals (nums R) ++ [.sl 11 0 (m + 1), .sl 12 0 n2, vi n1])), (9, .cel 39 [vi 0, vi 0, vi 0, vi 0, vi 0, vi 0, vi 0, vi 0, nilV, nilV, vi 0]), (10, .cel 97 [.fn 63 [.ptr 6 0, .ptr 7 0]]), (11, .row 2 (nums H)), (12, .row 2 (nums A))]) (fr2 := [(3, .ptr 6 0), (4, .ptr 7 0), (5, .ptr 8 0), (6, .ptr 9 0), (11, .ptr 10 0), (73, vi (0 : Nat))]) (n2 := 13) [.old 0, .old 1, .old 2, .old 3, .old 4, .old 5, .old 6, .old 7, .old 8, .old 9, .old 10, .old 11, .old 12] ?_ rfl (by decide) ⟨rfl, rfl, rfl, rfl, rfl, rfl, trivial⟩ ⟨rfl, rfl, rfl, ⟨_, rfl, rfl⟩, ⟨_, rfl, rfl⟩, ⟨_, rfl, by rw [hRe]; rfl⟩, ⟨_, rfl, rfl⟩, ⟨_, rfl, rfl⟩, ⟨_, rfl, rfl⟩, ⟨_, rfl, rfl⟩, trivial⟩
      refine LoopS.ind (S := Nat × List Int) (fun x => [(3, .ptr 6 0), (4, .ptr 7 0), (5, .ptr 8 0), (6, .ptr 9 0), (11, .ptr 10 0), (73, vi x.1)]) (fun x => hl [(0, .ro shapesV), (2, .ro (insCells f)), (3, .ro (insCells g)), (6, .cel 22 [.sl 2 0 f.length]), (7, .cel 22 [.sl 3 0 g.length]), (8, .cel 39 (vals (nums x.2) ++ [.sl 11 0 (m + 1), .sl 12 0 n2, vi n1])), (9, .cel 39 [vi 0, vi 0, vi 0, vi 0, vi 0, vi 0, vi 0, vi 0, nilV, nilV, vi 0]), (10, .cel 97 [.fn 63 [.ptr 6 0, .ptr 7 0]]), (11, .row 2 (nums H)), (12, .row 2 (nums A))]) 13
        (fun x => x.2.length = 8 ∧ x.1 ≤ 8 ∧ D = zeroR (telB f g) (8 - x.1) x.1 ⟨x.2, H.take (m + 1), A.take n2, (n1 : Int)⟩ ∧ Small ⟨x.2, H.take (m + 1), A.take n2, (n1 : Int)⟩ ⟨R, H, A, (N : Int)⟩) (fun x => 8 - x.1) ?_ (0, R) ⟨hR, Nat.zero_le _, hDz, hsz⟩
      clear hDz hsz
      rintro ⟨i, Q⟩ ⟨hQ, hi, hDz, hsm⟩ ih
      simp only at hQ hi hDz hsm
      obtain ⟨q0, q1, q2, q3, q4, q5, q6, q7, hQe⟩ := list8 hQ
      refine LoopS.round rfl ?_
      by_cases hlt : i < 8
      · have hX := small_R ⟨Q, H.take (m + 1), A.take n2, (n1 : Int)⟩ i
        have hTz := fn63 f g ⟨Q.set i 0, H.take (m + 1), A.take n2, (n1 : Int)⟩ (by rw [List.length_set]; exact hQ) (hfs _ (hX.trans hsm)) (hgs _ (hX.trans hsm))
        rw [show 8 - i = (8 - (i + 1)) + 1 by omega, zeroR] at hDz
        generalize telB f g ⟨Q.set i 0, H.take (m + 1), A.take n2, (n1 : Int)⟩ = z at hTz hDz
        have hsm2 := hX.trans hsm
        unfold caV caC at hTz
        simp only [List.length_take] at hTz
        rw [Nat.min_eq_left hle, Nat.min_eq_left hn2] at hTz
        have hi8 : i = 0 ∨ i = 1 ∨ i = 2 ∨ i = 3 ∨ i = 4 ∨ i = 5 ∨ i = 6 ∨ i = 7 := by omega
        rw [hQe] at hTz
        dsimp only
        rw [show nums Q = nums [q0, q1, q2, q3, q4, q5, q6, q7] by rw [hQe]]
        rcases hi8 with rfl | rfl | rfl | rfl | rfl | rfl | rfl | rfl
        all_goals
          conv => whnf
          refine callX hTz [.old 0, .old 1, .old 6, .old 7, .view 11 0, .view 12 0, .old 2, .old 3] rfl rfl rfl rfl ⟨rfl, ⟨_, rfl, rfl⟩, ⟨_, rfl, rfl⟩, ⟨_, rfl, takeLe H (m + 1), subTake H (m + 1)⟩, ⟨_, rfl, takeLe A n2, subTake A n2⟩, rfl, rfl, trivial⟩ ?_
          cases z
          · conv => whnf
            exact LoopS.ren [.old 0, .old 1, .old 2, .old 3, .old 4, .old 5, .old 6, .old 7, .old 8, .old 9, .old 10, .old 11, .old 12] (ih (_ + 1, Q) ⟨hQ, hlt, hDz, hsm⟩ (by dsimp only; omega)) rfl (by decide) ⟨rfl, rfl, rfl, rfl, rfl, rfl, trivial⟩ ⟨rfl, rfl, rfl, ⟨_, rfl, rfl⟩, ⟨_, rfl, rfl⟩, ⟨_, rfl, by rw [hQe]; rfl⟩, ⟨_, rfl, rfl⟩, ⟨_, rfl, rfl⟩, ⟨_, rfl, rfl⟩, ⟨_, rfl, rfl⟩, trivial⟩
          · conv => whnf
            exact LoopS.ren [.old 0, .old 1, .old 2, .old 3, .old 4, .old 5, .old 6, .old 7, .old 8, .old 9, .old 10, .old 11, .old 12] (ih (_ + 1, Q.set _ 0) ⟨by rw [List.length_set]; exact hQ, hlt, hDz, hsm2⟩ (by dsimp only; omega)) rfl (by decide) ⟨rfl, rfl, rfl, rfl, rfl, rfl, trivial⟩ ⟨rfl, rfl, rfl, ⟨_, rfl, rfl⟩, ⟨_, rfl, rfl⟩, ⟨_, rfl, by rw [hQe]; rfl⟩, ⟨_, rfl, rfl⟩, ⟨_, rfl, rfl⟩, ⟨_, rfl, rfl⟩, ⟨_, rfl, rfl⟩, trivial⟩
      · obtain rfl : i = 8 := by omega
        clear ih
        have hDe : D = ⟨Q, H.take (m + 1), A.take n2, (n1 : Int)⟩ := hDz
        have hTf := fn31 f g ⟨Q, H.take (m + 1), A.take n2, (n1 : Int)⟩ hQ (hfs _ hsm) (hgs _ hsm)
        rw [hDe]
        generalize tellC f g ⟨Q, H.take (m + 1), A.take n2, (n1 : Int)⟩ = kf at hTf ⊢
        unfold caV caC at hTf ⊢
        simp only [List.length_take] at hTf ⊢
        rw [Nat.min_eq_left hle, Nat.min_eq_left hn2] at hTf ⊢
        rw [hQe] at hTf
        rw [show nums Q = nums [q0, q1, q2, q3, q4, q5, q6, q7] by rw [hQe]]
        conv => whnf
        refine callX hTf [.old 0, .old 1, .old 2, .old 3, .view 11 0, .view 12 0] rfl rfl rfl rfl ⟨rfl, rfl, rfl, ⟨_, rfl, takeLe H (m + 1), subTake H (m + 1)⟩, ⟨_, rfl, takeLe A n2, subTake A n2⟩, trivial⟩ ?_
        conv => whnf
        exact retX [.old 0, .old 1, .old 2, .old 3, .old 4, .old 5, .old 11, .old 12] (.inl rfl) rfl rfl rfl ⟨⟨_, rfl, rfl⟩, ⟨_, rfl, rfl⟩, trivial⟩

    · conv => whnf
      exact LoopS.ren [.old 0, .old 1, .old 2, .old 3, .old 4, .old 5, .old 6, .old 7, .old 8, .old 9, .old 10, .old 11, .old 12] (ih m ⟨by omega, hDp⟩ (by omega)) rfl (by decide) ⟨rfl, rfl, rfl, rfl, rfl, trivial⟩ ⟨rfl, rfl, rfl, ⟨_, rfl, rfl⟩, ⟨_, rfl, rfl⟩, ⟨_, rfl, by rw [hRe]; rfl⟩, ⟨_, rfl, rfl⟩, ⟨_, rfl, rfl⟩, ⟨_, rfl, rfl⟩, ⟨_, rfl, rfl⟩, trivial⟩
end Go.Abs
