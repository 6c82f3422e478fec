/- The law AllocTwice. -/
import Derived.Test.YtfeokfaccaenhaaDoorE11
set_option linter.unusedVariables false
set_option linter.unusedSimpArgs false
namespace Go.Abs
open Go.Proofs
set_option maxRecDepth 100000
set_option maxHeartbeats 1000000
-- joinery/joinerylaw23.AllocTwice
def c5 : C := .seq (.reg none [0, 1, 2] [⟨some 6, none, .mv (.const (.bool false))⟩]) (.seq (.seq (.reg none [0, 1, 2, 15] [⟨some 13, none, .mv (.tmp 0)⟩, ⟨some 14, none, .len (.tmp 13)⟩, ⟨some 15, none, .bin .gtr (.tmp 14) (.const (.int .i64 300))⟩]) (.cond (.tmp 15) (.seq (.reg none [6] [⟨some 16, none, .call 22 []⟩, ⟨some 6, none, .mv (.tmp 16)⟩]) (.ret)) (.skip))) (.seq (.reg none [0, 1, 2, 7, 8] [⟨some 18, none, .mv (.tmp 0)⟩, ⟨some 19, none, .mv (.tmp 1)⟩, ⟨some 20, none, .mv (.tmp 2)⟩, ⟨some 21, none, .call 27 [.tmp 18, .tmp 19, .tmp 20]⟩, ⟨some 17, none, .mv (.tmp 21)⟩, ⟨some 22, none, .ext (.tmp 17) 0⟩, ⟨some 23, none, .ext (.tmp 17) 1⟩, ⟨some 7, none, .mv (.tmp 22)⟩, ⟨some 8, none, .mv (.tmp 23)⟩]) (.seq (.reg none [0, 1, 2, 7, 8, 9, 10] [⟨some 25, none, .mv (.tmp 0)⟩, ⟨some 26, none, .mv (.tmp 2)⟩, ⟨some 27, none, .mv (.tmp 1)⟩, ⟨some 28, none, .call 27 [.tmp 25, .tmp 26, .tmp 27]⟩, ⟨some 24, none, .mv (.tmp 28)⟩, ⟨some 29, none, .ext (.tmp 24) 0⟩, ⟨some 30, none, .ext (.tmp 24) 1⟩, ⟨some 9, none, .mv (.tmp 29)⟩, ⟨some 10, none, .mv (.tmp 30)⟩]) (.seq (.seq (.reg none [0, 1, 2, 7, 8, 39] [⟨some 31, none, .mv (.tmp 8)⟩, ⟨some 32, none, .mv (.tmp 10)⟩, ⟨some 33, none, .bin .neq (.tmp 31) (.tmp 32)⟩, ⟨some 34, none, .mv (.tmp 33)⟩, ⟨some 35, some (34, false), .mv (.tmp 7)⟩, ⟨some 36, some (34, false), .mv (.tmp 9)⟩, ⟨some 37, some (34, false), .call 25 [.tmp 35, .tmp 36]⟩, ⟨some 38, some (34, false), .un .not (.tmp 37)⟩, ⟨some 39, none, .pick (.tmp 34) (.const (.bool true)) (.tmp 38)⟩]) (.cond (.tmp 39) (.seq (.reg none [6] [⟨some 6, none, .mv (.const (.bool false))⟩]) (.ret)) (.skip))) (.seq (.seq (.reg none [0, 1, 2, 7, 8, 41] [⟨some 40, none, .mv (.tmp 8)⟩, ⟨some 41, none, .bin .neq (.tmp 40) (.const (.int .i64 0))⟩]) (.cond (.tmp 41) (.seq (.reg none [6] [⟨some 42, none, .mv (.tmp 8)⟩, ⟨some 43, none, .bin .eql (.tmp 42) (.const (.int .i64 1))⟩, ⟨some 44, none, .mv (.tmp 43)⟩, ⟨some 45, some (44, true), .call 22 []⟩, ⟨some 46, none, .pick (.tmp 44) (.tmp 45) (.const (.bool false))⟩, ⟨some 6, none, .mv (.tmp 46)⟩]) (.ret)) (.skip))) (.seq (.reg none [0, 11, 12] [⟨some 48, none, .mv (.tmp 7)⟩, ⟨some 49, none, .mv (.tmp 1)⟩, ⟨some 50, none, .mv (.tmp 2)⟩, ⟨some 51, none, .call 27 [.tmp 48, .tmp 49, .tmp 50]⟩, ⟨some 47, none, .mv (.tmp 51)⟩, ⟨some 52, none, .ext (.tmp 47) 0⟩, ⟨some 53, none, .ext (.tmp 47) 1⟩, ⟨some 11, none, .mv (.tmp 52)⟩, ⟨some 12, none, .mv (.tmp 53)⟩]) (.seq (.reg none [6] [⟨some 54, none, .mv (.tmp 12)⟩, ⟨some 55, none, .bin .eql (.tmp 54) (.const (.int .i64 0))⟩, ⟨some 56, none, .mv (.tmp 55)⟩, ⟨some 57, some (56, true), .mv (.tmp 11)⟩, ⟨some 58, some (56, true), .mv (.tmp 0)⟩, ⟨some 59, some (56, true), .call 25 [.tmp 57, .tmp 58]⟩, ⟨some 60, none, .pick (.tmp 56) (.tmp 59) (.const (.bool false))⟩, ⟨some 61, none, .mv (.tmp 60)⟩, ⟨some 62, some (61, true), .call 22 []⟩, ⟨some 63, none, .pick (.tmp 61) (.tmp 62) (.const (.bool false))⟩, ⟨some 6, none, .mv (.tmp 63)⟩]) (.ret))))))))
theorem ok5 : tabOk Tryd.prog 5 c5 [.tmp 6] 3 = true := by kernel_rfl
theorem otherI_comm (a b l : Int) : otherI a b l = otherI b a l := by unfold otherI; repeat' split <;> omega
theorem otherI_twice (a b l : Int) : otherI a b (otherI a b l) = l := by unfold otherI; repeat' split <;> omega
theorem renI_comm (a b : Int) (x : Ins) : renI a b x = renI b a x := by unfold renI; simp only [otherI_comm b a]
theorem renI_op (a b : Int) (x : Ins) : (renI a b x).op = x.op := by unfold renI; (repeat' split) <;> rfl
theorem renI_twice (a b : Int) (x : Ins) : renI a b (renI a b x) = x := by
  by_cases h1 : x.op = 1
  · simp [renI, h1, otherI_twice]; cases x; simp_all
  · by_cases h2 : x.op = 2 ∨ x.op = 3
    · simp [renI, h1, h2, otherI_twice]
    · simp [renI, h1, h2]
theorem RnE_comm (f : List Ins) (a b : Int) : RnE f b a = RnE f a b := by
  unfold RnE
  rw [show renI b a = renI a b from funext fun x => renI_comm b a x]
  congr 1
  exact propext ⟨fun ⟨h1, h2, h3⟩ => ⟨h1, h3, h2⟩, fun ⟨h1, h2, h3⟩ => ⟨h1, h3, h2⟩⟩
theorem renI_err {a b n : Int} {x : Ins} (ha : isSlot a = true) (hb : isSlot b = true) (h : insErr x n = 0) : insErr (renI a b x) n = 0 := by
  have h24 : ∀ l : Int, 0 ≤ l ∧ l < 24 → 0 ≤ otherI a b l ∧ otherI a b l < 24 := by
    intro l hl
    simp only [isSlot, isLoc, Bool.and_eq_true, decide_eq_true_eq] at ha hb
    unfold otherI
    repeat' split <;> omega
  obtain ⟨op, d, p, q, m, to⟩ := x
  by_cases h1 : op = 1
  · subst h1
    simp only [renI, if_pos]
    unfold insErr fieldsOk at h ⊢
    simp at h ⊢
    have := h24 d
    repeat' split at h
    all_goals simp_all
  · by_cases h2 : op = 2 ∨ op = 3
    · simp only [renI, if_neg h1, if_pos h2]
      unfold insErr fieldsOk at h ⊢
      have h3 := h24 d
      have h4 := h24 p
      rcases h2 with rfl | rfl
      all_goals
        simp at h ⊢
        repeat' split at h
        all_goals simp_all
    · simp only [renI, if_neg h1, if_neg h2]
      exact h
theorem ren_right {f : List Ins} {a b : Int} (ha : isSlot a = true) (hb : isSlot b = true) (h : right f = true) : right (f.map (renI a b)) = true := by
  rw [right_iff] at h ⊢
  obtain ⟨h1, h2, h3, h4⟩ := h
  rw [List.length_map, lastOp_map (renI_op a b)]
  refine ⟨h1, h2, fun x hx => ?_, h4⟩
  obtain ⟨y, hy, rfl⟩ := List.mem_map.1 hx
  exact renI_err ha hb (h3 y hy)
theorem Rn_cases (f : List Ins) (a b : Int) : RnE f a b = ([], 1) ∨ (RnE f a b = (f.map (renI a b), 0) ∧ RnE (f.map (renI a b)) a b = (f, 0)) := by
  by_cases h : right f = true ∧ isSlot a = true ∧ isSlot b = true
  · refine .inr ⟨if_pos h, ?_⟩
    unfold RnE
    rw [if_pos ⟨ren_right h.2.1 h.2.2 h.1, h.2⟩, List.map_map]
    congr 1
    conv => rhs; rw [← List.map_id f]
    congr 1
    funext x
    exact renI_twice a b x
  · exact .inl (if_neg h)
theorem fn5 (f : List Ins) (a b : Int) : FnOK Tryd.prog gidD 5 3 [.sl 2 0 f.length, vi a, vi b] (Abs.hl [(0, .ro shapesV), (2, .ro (insCells f))]) (vb true) (Abs.hl []) 3 := by
  refine FnOK.of ok5 (Nat.le_refl _) (Nat.le_refl _) fun M => ?_
  conv => whnf
  (first | refine brD_intro (fun h => ?_) (fun h => ?_) | refine brT_intro (fun h => ?_) (fun h => ?_)) <;> conv => whnf
  · refine callX fn22 [.old 0, .old 1] rfl rfl rfl rfl ⟨rfl, trivial⟩ ?_
    conv => whnf
    exact retX [.old 0, .old 1, .old 2] (.inl rfl) rfl rfl rfl trivial
  have hf : f.length ≤ 300 := by omega
  have R1 := fn27 f a b hf
  have R2 := fn27 f b a hf
  rw [RnE_comm] at R2
  rcases Rn_cases f a b with hE | ⟨hE, hE2⟩
  · rw [hE] at R1 R2
    dsimp only at R1 R2
    refine callX R1 [.old 0, .old 1, .old 2] rfl rfl rfl rfl ⟨rfl, rfl, trivial⟩ ?_
    conv => whnf
    refine callX R2 [.old 0, .old 1, .old 2] rfl rfl rfl rfl ⟨rfl, rfl, trivial⟩ ?_
    conv => whnf
    refine callX (fn25 [] [] (by decide)) [.old 0, .old 1, .view _ 0, .view _ 0] rfl rfl rfl rfl ⟨⟨_, rfl, by decide, rfl⟩, ⟨_, rfl, by decide, rfl⟩, trivial⟩ ?_
    conv => whnf
    refine callX fn22 [.old 0, .old 1] rfl rfl rfl rfl ⟨rfl, trivial⟩ ?_
    conv => whnf
    exact retX [.old 0, .old 1, .old 2] (.inl rfl) rfl rfl rfl trivial
  · have R3 := fn27 (f.map (renI a b)) a b (by simpa using hf)
    rw [hE] at R1 R2
    rw [hE2] at R3
    dsimp only at R1 R2 R3
    have hGl : (f.map (renI a b)).length ≤ 1000000000 := by simp; omega
    generalize f.map (renI a b) = G at *
    refine callX R1 [.old 0, .old 1, .old 2] rfl rfl rfl rfl ⟨rfl, rfl, trivial⟩ ?_
    conv => whnf
    refine callX R2 [.old 0, .old 1, .old 2] rfl rfl rfl rfl ⟨rfl, rfl, trivial⟩ ?_
    conv => whnf
    refine callX (fn25 G G hGl) [.old 0, .old 1, .view _ 0, .view _ 0] rfl rfl rfl rfl ⟨⟨_, rfl, by rw [Nat.zero_add]; exact Nat.le_of_eq (vals_length _).symm, subAll _ _⟩, ⟨_, rfl, by rw [Nat.zero_add]; exact Nat.le_of_eq (vals_length _).symm, subAll _ _⟩, trivial⟩ ?_
    conv => whnf
    refine brT_false (by simp) ?_
    conv => whnf
    refine callX R3 [.old 0, .old 1, .view _ 0] rfl rfl rfl rfl ⟨rfl, ⟨_, rfl, by rw [Nat.zero_add]; exact Nat.le_of_eq (vals_length _).symm, subAll _ _⟩, trivial⟩ ?_
    conv => whnf
    refine callX (fn25 f f (by omega)) [.old 0, .old 1, .view _ 0, .old 2] rfl rfl rfl rfl ⟨⟨_, rfl, by rw [Nat.zero_add]; exact Nat.le_of_eq (vals_length _).symm, subAll _ _⟩, rfl, trivial⟩ ?_
    conv => whnf
    refine brT_true (by simp) ?_
    conv => whnf
    refine callX fn22 [.old 0, .old 1] rfl rfl rfl rfl ⟨rfl, trivial⟩ ?_
    conv => whnf
    exact retX [.old 0, .old 1, .old 2] (.inl rfl) rfl rfl rfl trivial
end Go.Abs
