/- Contracts: all that a step does. -/
import Derived.Test.YtfeokfaccaenhaaDoorE23
import Derived.Test.YtfeokfaccaenhaaDoorB7
set_option linter.unusedVariables false
set_option linter.unusedSimpArgs false
namespace Go.Abs
open Go.Proofs
set_option maxRecDepth 100000
set_option maxHeartbeats 2000000
/-- A step's work: places, heap, next instruction, answers asked, the instruction, answers, events, how it stands. -/
def wkV (L : List (Bool × Int)) (h : V) (pc asked : Int) (x : Ins) (a e : V) (how value : Int) : List V := vals (wcells L) ++ [h, vi pc, vi asked, vi x.op, vi x.d, vi x.a, vi x.b, vi x.n, vi x.to, a, e, vi how, vi value]
-- (*joinery/step.work).do
def c158 : C := .seq (.reg (some [[], [0], [0], [0], [0], [0], [], [0, 1, 2, 3, 4, 5, 6], [0, 1, 2, 3, 4, 5, 6, 7], [0, 1, 2, 3, 4, 5, 6, 7], [0, 1, 2, 3, 4, 5, 6, 7], [0, 1, 2, 3, 4, 5, 6, 7], [0, 1, 2, 3, 4, 5, 6, 7], [], [], []]) [0, 2, 3] [⟨some 7, none, .mv (.tmp 0)⟩, ⟨some 8, none, .mv (.tmp 0)⟩, ⟨some 9, none, .nilc (.tmp 8)⟩, ⟨some 10, none, .fa 51 (.tmp 9)⟩, ⟨some 11, none, .fa 2 (.tmp 10)⟩, ⟨some 12, none, .ld none (.tmp 11)⟩, ⟨some 13, none, .call 167 [.tmp 7, .tmp 12]⟩, ⟨some 14, none, .mv (.tmp 0)⟩, ⟨some 15, none, .mv (.tmp 0)⟩, ⟨some 16, none, .nilc (.tmp 15)⟩, ⟨some 17, none, .fa 51 (.tmp 16)⟩, ⟨some 18, none, .fa 3 (.tmp 17)⟩, ⟨some 19, none, .ld none (.tmp 18)⟩, ⟨some 20, none, .call 167 [.tmp 14, .tmp 19]⟩, ⟨some 2, none, .mv (.tmp 13)⟩, ⟨some 3, none, .mv (.tmp 20)⟩]) (.seq (.reg none [0, 2, 3, 4] [⟨some 21, none, .mv (.tmp 0)⟩, ⟨some 22, none, .nilc (.tmp 21)⟩, ⟨some 23, none, .fa 0 (.tmp 22)⟩, ⟨some 24, none, .fa 49 (.tmp 23)⟩, ⟨some 25, none, .ld none (.tmp 24)⟩, ⟨some 26, none, .bin .add (.tmp 25) (.const (.int .i64 1))⟩, ⟨some 4, none, .mv (.tmp 26)⟩]) (.seq (.seq (.reg none [0, 2, 3, 4, 31] [⟨some 27, none, .mv (.tmp 0)⟩, ⟨some 28, none, .nilc (.tmp 27)⟩, ⟨some 29, none, .fa 51 (.tmp 28)⟩, ⟨some 30, none, .fa 0 (.tmp 29)⟩, ⟨some 31, none, .ld none (.tmp 30)⟩]) (.block 0 (.seq (.block 7 (.seq (.block 6 (.seq (.block 5 (.seq (.block 4 (.seq (.block 3 (.seq (.block 2 (.seq (.block 1 (.seq (.seq (.seq (.reg none [0, 2, 3, 4, 31, 32] [⟨some 33, none, .bin .eql (.tmp 31) (.const (.int .i64 13))⟩, ⟨some 32, none, .mv (.tmp 33)⟩]) (.cond (.tmp 32) (.exit 1) (.skip))) (.seq (.seq (.reg none [0, 2, 3, 4, 31, 34] [⟨some 35, none, .bin .eql (.tmp 31) (.const (.int .i64 14))⟩, ⟨some 34, none, .mv (.tmp 35)⟩]) (.cond (.tmp 34) (.exit 2) (.skip))) (.seq (.seq (.reg none [0, 2, 3, 4, 31, 36] [⟨some 37, none, .bin .eql (.tmp 31) (.const (.int .i64 15))⟩, ⟨some 36, none, .mv (.tmp 37)⟩]) (.cond (.tmp 36) (.exit 3) (.skip))) (.seq (.seq (.reg none [0, 2, 3, 4, 31, 38] [⟨some 39, none, .bin .eql (.tmp 31) (.const (.int .i64 18))⟩, ⟨some 38, none, .mv (.tmp 39)⟩]) (.cond (.tmp 38) (.exit 4) (.skip))) (.seq (.seq (.reg none [0, 2, 3, 4, 31, 40] [⟨some 41, none, .bin .eql (.tmp 31) (.const (.int .i64 17))⟩, ⟨some 40, none, .mv (.tmp 41)⟩]) (.cond (.tmp 40) (.exit 5) (.skip))) (.seq (.reg none [0, 2, 3, 4, 42] [⟨some 43, none, .bin .eql (.tmp 31) (.const (.int .i64 16))⟩, ⟨some 42, none, .mv (.tmp 43)⟩]) (.cond (.tmp 42) (.exit 6) (.skip)))))))) (.exit 7))) (.seq (.reg none [0, 4] [⟨some 44, none, .mv (.tmp 0)⟩, ⟨some 45, none, .mv (.tmp 0)⟩, ⟨some 46, none, .nilc (.tmp 45)⟩, ⟨some 47, none, .fa 0 (.tmp 46)⟩, ⟨some 48, none, .fa 48 (.tmp 47)⟩, ⟨some 49, none, .ld none (.tmp 48)⟩, ⟨some 50, none, .mv (.tmp 2)⟩, ⟨some 51, none, .call 169 [.tmp 49, .tmp 50]⟩, ⟨some 52, none, .ext (.tmp 51) 0⟩, ⟨some 53, none, .ext (.tmp 51) 1⟩, ⟨some 54, none, .call 168 [.tmp 44, .tmp 52, .tmp 53]⟩]) (.exit 0)))) (.seq (.seq (.reg none [0, 4, 5, 6] [⟨some 56, none, .mv (.tmp 0)⟩, ⟨some 57, none, .nilc (.tmp 56)⟩, ⟨some 58, none, .fa 0 (.tmp 57)⟩, ⟨some 59, none, .fa 48 (.tmp 58)⟩, ⟨some 60, none, .ld none (.tmp 59)⟩, ⟨some 61, none, .mv (.tmp 2)⟩, ⟨some 62, none, .mv (.tmp 3)⟩, ⟨some 63, none, .call 170 [.tmp 60, .tmp 61, .tmp 62]⟩, ⟨some 55, none, .mv (.tmp 63)⟩, ⟨some 64, none, .ext (.tmp 55) 0⟩, ⟨some 65, none, .ext (.tmp 55) 1⟩, ⟨some 5, none, .mv (.tmp 64)⟩, ⟨some 6, none, .mv (.tmp 65)⟩]) (.seq (.reg none [0, 4, 5, 6] [⟨some 66, none, .mv (.tmp 0)⟩, ⟨some 67, none, .mv (.tmp 6)⟩, ⟨some 68, none, .nilc (.tmp 66)⟩, ⟨some 69, none, .fa 59 (.tmp 68)⟩, ⟨none, none, .st 1 (.tmp 69) (.tmp 67)⟩]) (.seq (.reg none [0, 4, 5, 71] [⟨some 70, none, .mv (.tmp 6)⟩, ⟨some 71, none, .bin .eql (.tmp 70) (.const (.int .i64 0))⟩]) (.cond (.tmp 71) (.reg none [0, 4] [⟨some 72, none, .mv (.tmp 0)⟩, ⟨some 73, none, .mv (.tmp 5)⟩, ⟨some 74, none, .nilc (.tmp 72)⟩, ⟨some 75, none, .fa 0 (.tmp 74)⟩, ⟨some 76, none, .fa 48 (.tmp 75)⟩, ⟨none, none, .st 1 (.tmp 76) (.tmp 73)⟩]) (.skip))))) (.exit 0)))) (.seq (.reg none [0, 4] [⟨some 77, none, .mv (.tmp 0)⟩, ⟨some 78, none, .mv (.tmp 2)⟩, ⟨some 79, none, .call 171 [.tmp 77, .tmp 78]⟩]) (.exit 0)))) (.seq (.reg none [0, 4] [⟨some 80, none, .mv (.tmp 0)⟩, ⟨some 81, none, .mv (.tmp 0)⟩, ⟨some 82, none, .mv (.tmp 2)⟩, ⟨some 83, none, .nilc (.tmp 80)⟩, ⟨some 84, none, .fa 59 (.tmp 83)⟩, ⟨none, none, .st 1 (.tmp 84) (.const (.int .i64 1))⟩, ⟨some 85, none, .nilc (.tmp 81)⟩, ⟨some 86, none, .fa 60 (.tmp 85)⟩, ⟨none, none, .st 1 (.tmp 86) (.tmp 82)⟩]) (.exit 0)))) (.seq (.reg none [0, 4, 88] [⟨some 87, none, .mv (.tmp 2)⟩, ⟨some 88, none, .bin .neq (.tmp 87) (.const (.int .i64 0))⟩]) (.cond (.tmp 88) (.exit 0) (.skip))))) (.seq (.reg none [0, 4] [⟨some 89, none, .mv (.tmp 0)⟩, ⟨some 90, none, .nilc (.tmp 89)⟩, ⟨some 91, none, .fa 51 (.tmp 90)⟩, ⟨some 92, none, .fa 5 (.tmp 91)⟩, ⟨some 93, none, .ld none (.tmp 92)⟩, ⟨some 4, none, .mv (.tmp 93)⟩]) (.exit 0)))) (.seq (.seq (.seq (.reg none [0, 2, 3, 4, 99] [⟨some 94, none, .mv (.tmp 0)⟩, ⟨some 95, none, .nilc (.tmp 94)⟩, ⟨some 96, none, .fa 51 (.tmp 95)⟩, ⟨some 97, none, .ld (some 6) (.tmp 96)⟩, ⟨some 98, none, .call 125 [.tmp 97]⟩, ⟨some 99, none, .un .not (.tmp 98)⟩]) (.cond (.tmp 99) (.seq (.reg none [0, 4] [⟨some 100, none, .mv (.tmp 0)⟩, ⟨some 101, none, .mv (.tmp 0)⟩, ⟨some 102, none, .nilc (.tmp 101)⟩, ⟨some 103, none, .fa 51 (.tmp 102)⟩, ⟨some 104, none, .fa 0 (.tmp 103)⟩, ⟨some 105, none, .ld none (.tmp 104)⟩, ⟨some 106, none, .mv (.tmp 2)⟩, ⟨some 107, none, .mv (.tmp 3)⟩, ⟨some 108, none, .call 172 [.tmp 105, .tmp 106, .tmp 107]⟩, ⟨some 109, none, .ext (.tmp 108) 0⟩, ⟨some 110, none, .ext (.tmp 108) 1⟩, ⟨some 111, none, .call 168 [.tmp 100, .tmp 109, .tmp 110]⟩]) (.exit 0)) (.skip))) (.reg none [0, 4] [⟨some 112, none, .mv (.tmp 0)⟩, ⟨some 113, none, .call 173 [.tmp 112]⟩])) (.exit 0))))) (.seq (.reg none [0, 4, 118] [⟨some 114, none, .mv (.tmp 0)⟩, ⟨some 115, none, .nilc (.tmp 114)⟩, ⟨some 116, none, .fa 59 (.tmp 115)⟩, ⟨some 117, none, .ld none (.tmp 116)⟩, ⟨some 118, none, .bin .eql (.tmp 117) (.const (.int .i64 0))⟩]) (.cond (.tmp 118) (.reg none [] [⟨some 119, none, .mv (.tmp 0)⟩, ⟨some 120, none, .mv (.tmp 4)⟩, ⟨some 121, none, .nilc (.tmp 119)⟩, ⟨some 122, none, .fa 0 (.tmp 121)⟩, ⟨some 123, none, .fa 49 (.tmp 122)⟩, ⟨none, none, .st 1 (.tmp 123) (.tmp 120)⟩]) (.skip)))))
theorem ok158 : tabOk Tryd.prog 158 c158 [] 1 = true := by kernel_rfl
def DoOK (x : Ins) (s : Mst) (A : List Int) : Prop := FnOK Tryd.prog gidD 158 5 [.ptr 2 0] (hl [(2, .cel 272 (wkV s.L (.sl 3 0 s.H.length) s.pc s.asked x (.sl 4 0 A.length) nilV 0 0)), (3, .row 2 (nums s.H)), (4, .ro (nums A))]) (.tup [])
  (hl [(2, .cel 272 (wkV (stepX x s A).1.L (.sl 6 0 (stepX x s A).1.H.length) (stepX x s A).1.pc (stepX x s A).1.asked x (.sl 4 0 A.length) (.sl 5 0 (stepX x s A).2.1.length) (stepX x s A).2.2.how (stepX x s A).2.2.value)),
    (5, .row 205 (evCells (stepX x s A).2.1)), (6, .row 2 (nums (stepX x s A).1.H))]) 7
/-- What is asked of a step ahead. -/
structure Pre (x : Ins) (s : Mst) (A : List Int) : Prop where
  err : ∃ n, insErr x n = 0
  len : s.L.length = 24
  heap : s.H.length ≤ 16
  pc : s.pc ≤ 1000000
  A : A.length ≤ 1000000
section
variable {x : Ins} {s : Mst} {A : List Int}
theorem Pre.d (h : Pre x s A) : 0 ≤ x.d ∧ x.d < 24 := (insErr_loc h.err.choose_spec).1
theorem Pre.a (h : Pre x s A) : 0 ≤ x.a ∧ x.a < 24 := (insErr_loc h.err.choose_spec).2.1
theorem Pre.b (h : Pre x s A) : 0 ≤ x.b ∧ x.b < 24 := (insErr_loc h.err.choose_spec).2.2
theorem Pre.op (h : Pre x s A) : 1 ≤ x.op ∧ x.op ≤ 18 := insErr_op h.err.choose_spec
theorem Pre.to (h : Pre x s A) (ho : x.op = 16 ∨ x.op = 17) : 0 ≤ x.to := (insErr_range h.err.choose_spec ho).1
end
theorem pcNext {p : Nat} (h : p ≤ 1000000) : IntKind.i64.wrap ((p : Int) + 1) = ((p + 1 : Nat) : Int) := w64i (k := 1000001) (by omega) (by omega)
theorem do18 {x : Ins} {s : Mst} {A : List Int} (h : Pre x s A) (ho : x.op = 18) (hu : hasU x s = true) : DoOK x s A := by
  unfold DoOK
  rw [step18 ho hu]
  have hd := h.d
  have ha := h.a
  have hb := h.b
  have hto := h.to
  have hL := h.len
  have hH := h.heap
  have hA := h.A
  have hpc := h.pc
  have hop := h.op
  have hp := pcNext h.pc
  obtain ⟨op, d, a, b, m, to⟩ := x
  obtain ⟨L, H, pc, asked⟩ := s
  simp only at *
  subst ho
  have na := fn167v5 (hn := H.length) (an := A.length) (pc := pc) (asked := asked) (how := 0) (value := 0) (x := ⟨18, d, a, b, m, to⟩) hL ha.1 ha.2
  have nb := fn167v5 (hn := H.length) (an := A.length) (pc := pc) (asked := asked) (how := 0) (value := 0) (x := ⟨18, d, a, b, m, to⟩) hL hb.1 hb.2
  obtain ⟨a0, a1, a2, a3, a4, a5, a6, a7, a8, a9, a10, a11, a12, a13, a14, a15, a16, a17, a18, a19, a20, a21, a22, a23, hLe⟩ := list24 hL
  rw [hLe] at na nb
  try rw [hLe]
  refine FnOK.of ok158 (Nat.le_refl _) (by decide) fun M => ?_
  conv => whnf
  refine callX na [.old 0, .old 1, .old 2, .old 3, .old 4] rfl rfl rfl rfl ⟨⟨_, rfl, rfl⟩, trivial⟩ ?_
  conv => whnf
  refine callX nb [.old 0, .old 1, .old 2, .old 3, .old 4] rfl rfl rfl rfl ⟨⟨_, rfl, rfl⟩, trivial⟩ ?_
  conv => whnf
  repeat (refine cndP_intro (by first | omega | exact rfl | (show _ ≤ 61; omega)) ?_; conv => whnf)
  refine cndP_intro (apart_calm _ _ (Nat.le_of_ble_eq_true rfl) (by simp only [List.forall_mem_cons]; (repeat' apply And.intro) <;> first | exact rfl | exact chg_same (blk_refl rfl) | exact List.forall_mem_nil _)) ?_
  conv => whnf
  try rw [hp]
  exact retX [.old 0, .old 1, .old 2, .old 3, .old 4, .nil, .old 3] (.inr rfl) rfl rfl rfl ⟨⟨_, rfl, rfl⟩, rfl, ⟨_, rfl, rfl⟩, trivial⟩
theorem do16 {x : Ins} {s : Mst} {A : List Int} (h : Pre x s A) (ho : x.op = 16) : DoOK x s A := by
  unfold DoOK
  rw [step16 ho]
  have hd := h.d
  have ha := h.a
  have hb := h.b
  have hto := h.to
  have hL := h.len
  have hH := h.heap
  have hA := h.A
  have hpc := h.pc
  have hop := h.op
  have hp := pcNext h.pc
  obtain ⟨op, d, a, b, m, to⟩ := x
  obtain ⟨L, H, pc, asked⟩ := s
  simp only at *
  subst ho
  have na := fn167v5 (hn := H.length) (an := A.length) (pc := pc) (asked := asked) (how := 0) (value := 0) (x := ⟨16, d, a, b, m, to⟩) hL ha.1 ha.2
  have nb := fn167v5 (hn := H.length) (an := A.length) (pc := pc) (asked := asked) (how := 0) (value := 0) (x := ⟨16, d, a, b, m, to⟩) hL hb.1 hb.2
  obtain ⟨a0, a1, a2, a3, a4, a5, a6, a7, a8, a9, a10, a11, a12, a13, a14, a15, a16, a17, a18, a19, a20, a21, a22, a23, hLe⟩ := list24 hL
  rw [hLe] at na nb
  try rw [hLe]
  refine FnOK.of ok158 (Nat.le_refl _) (by decide) fun M => ?_
  conv => whnf
  refine callX na [.old 0, .old 1, .old 2, .old 3, .old 4] rfl rfl rfl rfl ⟨⟨_, rfl, rfl⟩, trivial⟩ ?_
  conv => whnf
  refine callX nb [.old 0, .old 1, .old 2, .old 3, .old 4] rfl rfl rfl rfl ⟨⟨_, rfl, rfl⟩, trivial⟩ ?_
  conv => whnf
  repeat (refine cndP_intro (by first | omega | exact rfl | (show _ ≤ 61; omega)) ?_; conv => whnf)
  refine cndP_intro (apart_calm _ _ (Nat.le_of_ble_eq_true rfl) (by simp only [List.forall_mem_cons]; (repeat' apply And.intro) <;> first | exact rfl | exact chg_same (blk_refl rfl) | exact List.forall_mem_nil _)) ?_
  conv => whnf
  repeat (refine cndP_intro (by first | omega | exact rfl | (show _ ≤ 61; omega)) ?_; conv => whnf)
  have e : ((to.toNat : Nat) : Int) = to := Int.toNat_of_nonneg (hto (.inl rfl))
  try dsimp only
  rw [e]
  try rw [hp]
  exact retX [.old 0, .old 1, .old 2, .old 3, .old 4, .nil, .old 3] (.inr rfl) rfl rfl rfl ⟨⟨_, rfl, rfl⟩, rfl, ⟨_, rfl, rfl⟩, trivial⟩
theorem do17y {x : Ins} {s : Mst} {A : List Int} (h : Pre x s A) (ho : x.op = 17) (hu : hasU x s = true) (hz : (getW s.L x.a).2 = 0) : DoOK x s A := by
  unfold DoOK
  rw [step17 ho hu, if_pos hz]
  have hd := h.d
  have ha := h.a
  have hb := h.b
  have hto := h.to
  have hL := h.len
  have hH := h.heap
  have hA := h.A
  have hpc := h.pc
  have hop := h.op
  have hp := pcNext h.pc
  obtain ⟨op, d, a, b, m, to⟩ := x
  obtain ⟨L, H, pc, asked⟩ := s
  simp only at *
  subst ho
  have na := fn167v5 (hn := H.length) (an := A.length) (pc := pc) (asked := asked) (how := 0) (value := 0) (x := ⟨17, d, a, b, m, to⟩) hL ha.1 ha.2
  have nb := fn167v5 (hn := H.length) (an := A.length) (pc := pc) (asked := asked) (how := 0) (value := 0) (x := ⟨17, d, a, b, m, to⟩) hL hb.1 hb.2
  rw [hz] at na
  obtain ⟨a0, a1, a2, a3, a4, a5, a6, a7, a8, a9, a10, a11, a12, a13, a14, a15, a16, a17, a18, a19, a20, a21, a22, a23, hLe⟩ := list24 hL
  rw [hLe] at na nb
  try rw [hLe]
  refine FnOK.of ok158 (Nat.le_refl _) (by decide) fun M => ?_
  conv => whnf
  refine callX na [.old 0, .old 1, .old 2, .old 3, .old 4] rfl rfl rfl rfl ⟨⟨_, rfl, rfl⟩, trivial⟩ ?_
  conv => whnf
  refine callX nb [.old 0, .old 1, .old 2, .old 3, .old 4] rfl rfl rfl rfl ⟨⟨_, rfl, rfl⟩, trivial⟩ ?_
  conv => whnf
  repeat (refine cndP_intro (by first | omega | exact rfl | (show _ ≤ 61; omega)) ?_; conv => whnf)
  refine cndP_intro (apart_calm _ _ (Nat.le_of_ble_eq_true rfl) (by simp only [List.forall_mem_cons]; (repeat' apply And.intro) <;> first | exact rfl | exact chg_same (blk_refl rfl) | exact List.forall_mem_nil _)) ?_
  conv => whnf
  repeat (refine cndP_intro (by first | omega | exact rfl | (show _ ≤ 61; omega)) ?_; conv => whnf)
  have e : ((to.toNat : Nat) : Int) = to := Int.toNat_of_nonneg (hto (.inr rfl))
  try dsimp only
  rw [e]
  try rw [hp]
  exact retX [.old 0, .old 1, .old 2, .old 3, .old 4, .nil, .old 3] (.inr rfl) rfl rfl rfl ⟨⟨_, rfl, rfl⟩, rfl, ⟨_, rfl, rfl⟩, trivial⟩
theorem do17n {x : Ins} {s : Mst} {A : List Int} (h : Pre x s A) (ho : x.op = 17) (hu : hasU x s = true) (hz : ¬ (getW s.L x.a).2 = 0) : DoOK x s A := by
  unfold DoOK
  rw [step17 ho hu, if_neg hz]
  have hd := h.d
  have ha := h.a
  have hb := h.b
  have hto := h.to
  have hL := h.len
  have hH := h.heap
  have hA := h.A
  have hpc := h.pc
  have hop := h.op
  have hp := pcNext h.pc
  obtain ⟨op, d, a, b, m, to⟩ := x
  obtain ⟨L, H, pc, asked⟩ := s
  simp only at *
  subst ho
  have na := fn167v5 (hn := H.length) (an := A.length) (pc := pc) (asked := asked) (how := 0) (value := 0) (x := ⟨17, d, a, b, m, to⟩) hL ha.1 ha.2
  have nb := fn167v5 (hn := H.length) (an := A.length) (pc := pc) (asked := asked) (how := 0) (value := 0) (x := ⟨17, d, a, b, m, to⟩) hL hb.1 hb.2
  generalize (getW L a).2 = za at na hz
  obtain ⟨a0, a1, a2, a3, a4, a5, a6, a7, a8, a9, a10, a11, a12, a13, a14, a15, a16, a17, a18, a19, a20, a21, a22, a23, hLe⟩ := list24 hL
  rw [hLe] at na nb
  try rw [hLe]
  refine FnOK.of ok158 (Nat.le_refl _) (by decide) fun M => ?_
  conv => whnf
  refine callX na [.old 0, .old 1, .old 2, .old 3, .old 4] rfl rfl rfl rfl ⟨⟨_, rfl, rfl⟩, trivial⟩ ?_
  conv => whnf
  refine callX nb [.old 0, .old 1, .old 2, .old 3, .old 4] rfl rfl rfl rfl ⟨⟨_, rfl, rfl⟩, trivial⟩ ?_
  conv => whnf
  repeat (refine cndP_intro (by first | omega | exact rfl | (show _ ≤ 61; omega)) ?_; conv => whnf)
  refine cndP_intro (apart_calm _ _ (Nat.le_of_ble_eq_true rfl) (by simp only [List.forall_mem_cons]; (repeat' apply And.intro) <;> first | exact rfl | exact chg_same (blk_refl rfl) | exact List.forall_mem_nil _)) ?_
  conv => whnf
  refine brT_true (decide_eq_true hz) ?_
  conv => whnf
  repeat (refine cndP_intro (by first | omega | exact rfl | (show _ ≤ 61; omega)) ?_; conv => whnf)
  try rw [hp]
  exact retX [.old 0, .old 1, .old 2, .old 3, .old 4, .nil, .old 3] (.inr rfl) rfl rfl rfl ⟨⟨_, rfl, rfl⟩, rfl, ⟨_, rfl, rfl⟩, trivial⟩
theorem do13y {x : Ins} {s : Mst} {A : List Int} (h : Pre x s A) (ho : x.op = 13) (hu : hasU x s = true) (hi : inH s.H (getW s.L x.a).2 = true) : DoOK x s A := by
  unfold DoOK
  rw [step13y ho hu hi]
  have hd := h.d
  have ha := h.a
  have hb := h.b
  have hto := h.to
  have hL := h.len
  have hH := h.heap
  have hA := h.A
  have hpc := h.pc
  have hop := h.op
  have hp := pcNext h.pc
  obtain ⟨op, d, a, b, m, to⟩ := x
  obtain ⟨L, H, pc, asked⟩ := s
  simp only at *
  subst ho
  have na := fn167v5 (hn := H.length) (an := A.length) (pc := pc) (asked := asked) (how := 0) (value := 0) (x := ⟨13, d, a, b, m, to⟩) hL ha.1 ha.2
  have nb := fn167v5 (hn := H.length) (an := A.length) (pc := pc) (asked := asked) (how := 0) (value := 0) (x := ⟨13, d, a, b, m, to⟩) hL hb.1 hb.2
  have hl := fn169 H (getW L a).2 hH
  rw [if_pos hi, if_pos hi] at hl
  generalize (getW L a).2 = za at na hl ⊢
  generalize (H[za.toNat]?).getD 0 = zv at hl ⊢
  have hset := fn168v5 (hn := H.length) (an := A.length) (pc := pc) (asked := asked) (how := 0) (value := 0) (x := ⟨13, d, a, b, m, to⟩) hL zv 0 hd.1 hd.2
  rw [show setL L d zv 0 = L.set d.toNat (true, zv) from if_pos rfl] at hset
  have hL2 : (L.set d.toNat (true, zv)).length = 24 := by simpa using hL
  obtain ⟨b0, b1, b2, b3, b4, b5, b6, b7, b8, b9, b10, b11, b12, b13, b14, b15, b16, b17, b18, b19, b20, b21, b22, b23, hLe2⟩ := list24 hL2
  rw [hLe2] at hset ⊢
  obtain ⟨a0, a1, a2, a3, a4, a5, a6, a7, a8, a9, a10, a11, a12, a13, a14, a15, a16, a17, a18, a19, a20, a21, a22, a23, hLe⟩ := list24 hL
  rw [hLe] at na nb hset
  try rw [hLe]
  refine FnOK.of ok158 (Nat.le_refl _) (by decide) fun M => ?_
  conv => whnf
  refine callX na [.old 0, .old 1, .old 2, .old 3, .old 4] rfl rfl rfl rfl ⟨⟨_, rfl, rfl⟩, trivial⟩ ?_
  conv => whnf
  refine callX nb [.old 0, .old 1, .old 2, .old 3, .old 4] rfl rfl rfl rfl ⟨⟨_, rfl, rfl⟩, trivial⟩ ?_
  conv => whnf
  repeat (refine cndP_intro (by first | omega | exact rfl | (show _ ≤ 61; omega)) ?_; conv => whnf)
  refine cndP_intro (apart_calm _ _ (Nat.le_of_ble_eq_true rfl) (by simp only [List.forall_mem_cons]; (repeat' apply And.intro) <;> first | exact rfl | exact chg_same (blk_refl rfl) | exact List.forall_mem_nil _)) ?_
  conv => whnf
  refine callX hl [.old 0, .old 1, .view 3 0] rfl rfl rfl rfl ⟨⟨_, rfl, by rw [Nat.zero_add]; exact Nat.le_of_eq (vals_length _).symm, subAll _ _⟩, trivial⟩ ?_
  conv => whnf
  refine callX hset [.old 0, .old 1, .old 2, .old 3, .old 4] rfl rfl rfl rfl ⟨⟨_, rfl, rfl⟩, trivial⟩ ?_
  conv => whnf
  repeat (refine cndP_intro (by first | omega | exact rfl | (show _ ≤ 61; omega)) ?_; conv => whnf)
  try rw [hp]
  exact retX [.old 0, .old 1, .old 2, .old 3, .old 4, .nil, .old 3] (.inr rfl) rfl rfl rfl ⟨⟨_, rfl, rfl⟩, rfl, ⟨_, rfl, rfl⟩, trivial⟩
theorem do13n {x : Ins} {s : Mst} {A : List Int} (h : Pre x s A) (ho : x.op = 13) (hu : hasU x s = true) (hi : ¬ inH s.H (getW s.L x.a).2 = true) : DoOK x s A := by
  unfold DoOK
  rw [step13n ho hu hi]
  have hd := h.d
  have ha := h.a
  have hb := h.b
  have hto := h.to
  have hL := h.len
  have hH := h.heap
  have hA := h.A
  have hpc := h.pc
  have hop := h.op
  have hp := pcNext h.pc
  obtain ⟨op, d, a, b, m, to⟩ := x
  obtain ⟨L, H, pc, asked⟩ := s
  simp only at *
  subst ho
  have na := fn167v5 (hn := H.length) (an := A.length) (pc := pc) (asked := asked) (how := 0) (value := 0) (x := ⟨13, d, a, b, m, to⟩) hL ha.1 ha.2
  have nb := fn167v5 (hn := H.length) (an := A.length) (pc := pc) (asked := asked) (how := 0) (value := 0) (x := ⟨13, d, a, b, m, to⟩) hL hb.1 hb.2
  have hl := fn169 H (getW L a).2 hH
  rw [if_neg hi, if_neg hi] at hl
  generalize (getW L a).2 = za at na hl
  have hset := fn168v5 (hn := H.length) (an := A.length) (pc := pc) (asked := asked) (how := 0) (value := 0) (x := ⟨13, d, a, b, m, to⟩) hL 0 4 hd.1 hd.2
  rw [show setL L d 0 4 = L from if_neg (by decide)] at hset
  obtain ⟨a0, a1, a2, a3, a4, a5, a6, a7, a8, a9, a10, a11, a12, a13, a14, a15, a16, a17, a18, a19, a20, a21, a22, a23, hLe⟩ := list24 hL
  rw [hLe] at na nb hset
  try rw [hLe]
  refine FnOK.of ok158 (Nat.le_refl _) (by decide) fun M => ?_
  conv => whnf
  refine callX na [.old 0, .old 1, .old 2, .old 3, .old 4] rfl rfl rfl rfl ⟨⟨_, rfl, rfl⟩, trivial⟩ ?_
  conv => whnf
  refine callX nb [.old 0, .old 1, .old 2, .old 3, .old 4] rfl rfl rfl rfl ⟨⟨_, rfl, rfl⟩, trivial⟩ ?_
  conv => whnf
  repeat (refine cndP_intro (by first | omega | exact rfl | (show _ ≤ 61; omega)) ?_; conv => whnf)
  refine cndP_intro (apart_calm _ _ (Nat.le_of_ble_eq_true rfl) (by simp only [List.forall_mem_cons]; (repeat' apply And.intro) <;> first | exact rfl | exact chg_same (blk_refl rfl) | exact List.forall_mem_nil _)) ?_
  conv => whnf
  refine callX hl [.old 0, .old 1, .view 3 0] rfl rfl rfl rfl ⟨⟨_, rfl, by rw [Nat.zero_add]; exact Nat.le_of_eq (vals_length _).symm, subAll _ _⟩, trivial⟩ ?_
  conv => whnf
  refine callX hset [.old 0, .old 1, .old 2, .old 3, .old 4] rfl rfl rfl rfl ⟨⟨_, rfl, rfl⟩, trivial⟩ ?_
  conv => whnf
  repeat (refine cndP_intro (by first | omega | exact rfl | (show _ ≤ 61; omega)) ?_; conv => whnf)
  try rw [hp]
  exact retX [.old 0, .old 1, .old 2, .old 3, .old 4, .nil, .old 3] (.inr rfl) rfl rfl rfl ⟨⟨_, rfl, rfl⟩, rfl, ⟨_, rfl, rfl⟩, trivial⟩
theorem do14y {x : Ins} {s : Mst} {A : List Int} (h : Pre x s A) (ho : x.op = 14) (hu : hasU x s = true) (hi : inH s.H (getW s.L x.a).2 = true) : DoOK x s A := by
  unfold DoOK
  rw [step14y ho hu hi]
  have hd := h.d
  have ha := h.a
  have hb := h.b
  have hto := h.to
  have hL := h.len
  have hH := h.heap
  have hA := h.A
  have hpc := h.pc
  have hop := h.op
  have hp := pcNext h.pc
  obtain ⟨op, d, a, b, m, to⟩ := x
  obtain ⟨L, H, pc, asked⟩ := s
  simp only at *
  subst ho
  have na := fn167v5 (hn := H.length) (an := A.length) (pc := pc) (asked := asked) (how := 0) (value := 0) (x := ⟨14, d, a, b, m, to⟩) hL ha.1 ha.2
  have nb := fn167v5 (hn := H.length) (an := A.length) (pc := pc) (asked := asked) (how := 0) (value := 0) (x := ⟨14, d, a, b, m, to⟩) hL hb.1 hb.2
  have hl := fn170 H (getW L a).2 (getW L b).2 hH
  rw [if_pos hi, show storeL H (getW L a).2 (getW L b).2 = H.set (getW L a).2.toNat (getW L b).2 from if_pos hi] at hl
  generalize (getW L a).2 = za at na hl ⊢
  generalize (getW L b).2 = zb at nb hl ⊢
  try dsimp only
  generalize H.set za.toNat zb = H2 at hl ⊢
  obtain ⟨a0, a1, a2, a3, a4, a5, a6, a7, a8, a9, a10, a11, a12, a13, a14, a15, a16, a17, a18, a19, a20, a21, a22, a23, hLe⟩ := list24 hL
  rw [hLe] at na nb
  try rw [hLe]
  refine FnOK.of ok158 (Nat.le_refl _) (by decide) fun M => ?_
  conv => whnf
  refine callX na [.old 0, .old 1, .old 2, .old 3, .old 4] rfl rfl rfl rfl ⟨⟨_, rfl, rfl⟩, trivial⟩ ?_
  conv => whnf
  refine callX nb [.old 0, .old 1, .old 2, .old 3, .old 4] rfl rfl rfl rfl ⟨⟨_, rfl, rfl⟩, trivial⟩ ?_
  conv => whnf
  repeat (refine cndP_intro (by first | omega | exact rfl | (show _ ≤ 61; omega)) ?_; conv => whnf)
  refine cndP_intro (apart_calm _ _ (Nat.le_of_ble_eq_true rfl) (by simp only [List.forall_mem_cons]; (repeat' apply And.intro) <;> first | exact rfl | exact chg_same (blk_refl rfl) | exact List.forall_mem_nil _)) ?_
  conv => whnf
  refine callX hl [.old 0, .old 1, .view 3 0] rfl rfl rfl rfl ⟨⟨_, rfl, by rw [Nat.zero_add]; exact Nat.le_of_eq (vals_length _).symm, subAll _ _⟩, trivial⟩ ?_
  conv => whnf
  repeat (refine cndP_intro (by first | omega | exact rfl | (show _ ≤ 61; omega)) ?_; conv => whnf)
  try rw [hp]
  exact retX [.old 0, .old 1, .old 2, .old 3, .old 4, .nil, .old 5] (.inr rfl) rfl rfl rfl ⟨⟨_, rfl, rfl⟩, rfl, ⟨_, rfl, rfl⟩, trivial⟩
theorem do14n {x : Ins} {s : Mst} {A : List Int} (h : Pre x s A) (ho : x.op = 14) (hu : hasU x s = true) (hi : ¬ inH s.H (getW s.L x.a).2 = true) : DoOK x s A := by
  unfold DoOK
  rw [step14n ho hu hi]
  have hd := h.d
  have ha := h.a
  have hb := h.b
  have hto := h.to
  have hL := h.len
  have hH := h.heap
  have hA := h.A
  have hpc := h.pc
  have hop := h.op
  have hp := pcNext h.pc
  obtain ⟨op, d, a, b, m, to⟩ := x
  obtain ⟨L, H, pc, asked⟩ := s
  simp only at *
  subst ho
  have na := fn167v5 (hn := H.length) (an := A.length) (pc := pc) (asked := asked) (how := 0) (value := 0) (x := ⟨14, d, a, b, m, to⟩) hL ha.1 ha.2
  have nb := fn167v5 (hn := H.length) (an := A.length) (pc := pc) (asked := asked) (how := 0) (value := 0) (x := ⟨14, d, a, b, m, to⟩) hL hb.1 hb.2
  have hl := fn170 H (getW L a).2 (getW L b).2 hH
  rw [if_neg hi, show storeL H (getW L a).2 (getW L b).2 = [] from if_neg hi] at hl
  generalize (getW L a).2 = za at na hl
  generalize (getW L b).2 = zb at nb hl
  obtain ⟨a0, a1, a2, a3, a4, a5, a6, a7, a8, a9, a10, a11, a12, a13, a14, a15, a16, a17, a18, a19, a20, a21, a22, a23, hLe⟩ := list24 hL
  rw [hLe] at na nb
  try rw [hLe]
  refine FnOK.of ok158 (Nat.le_refl _) (by decide) fun M => ?_
  conv => whnf
  refine callX na [.old 0, .old 1, .old 2, .old 3, .old 4] rfl rfl rfl rfl ⟨⟨_, rfl, rfl⟩, trivial⟩ ?_
  conv => whnf
  refine callX nb [.old 0, .old 1, .old 2, .old 3, .old 4] rfl rfl rfl rfl ⟨⟨_, rfl, rfl⟩, trivial⟩ ?_
  conv => whnf
  repeat (refine cndP_intro (by first | omega | exact rfl | (show _ ≤ 61; omega)) ?_; conv => whnf)
  refine cndP_intro (apart_calm _ _ (Nat.le_of_ble_eq_true rfl) (by simp only [List.forall_mem_cons]; (repeat' apply And.intro) <;> first | exact rfl | exact chg_same (blk_refl rfl) | exact List.forall_mem_nil _)) ?_
  conv => whnf
  refine callX hl [.old 0, .old 1, .view 3 0] rfl rfl rfl rfl ⟨⟨_, rfl, by rw [Nat.zero_add]; exact Nat.le_of_eq (vals_length _).symm, subAll _ _⟩, trivial⟩ ?_
  conv => whnf
  repeat (refine cndP_intro (by first | omega | exact rfl | (show _ ≤ 61; omega)) ?_; conv => whnf)
  try rw [hp]
  exact retX [.old 0, .old 1, .old 2, .old 3, .old 4, .nil, .old 3] (.inr rfl) rfl rfl rfl ⟨⟨_, rfl, rfl⟩, rfl, ⟨_, rfl, rfl⟩, trivial⟩
theorem do15y {x : Ins} {s : Mst} {A : List Int} (h : Pre x s A) {v : Int} (ho : x.op = 15) (hu : hasU x s = true) (hi : A[s.asked]? = some v) : DoOK x s A := by
  unfold DoOK
  rw [step15y ho hu hi]
  have hd := h.d
  have ha := h.a
  have hb := h.b
  have hto := h.to
  have hL := h.len
  have hH := h.heap
  have hA := h.A
  have hpc := h.pc
  have hop := h.op
  have hp := pcNext h.pc
  obtain ⟨op, d, a, b, m, to⟩ := x
  obtain ⟨L, H, pc, asked⟩ := s
  simp only at *
  subst ho
  have na := fn167v5 (hn := H.length) (an := A.length) (pc := pc) (asked := asked) (how := 0) (value := 0) (x := ⟨15, d, a, b, m, to⟩) hL ha.1 ha.2
  have nb := fn167v5 (hn := H.length) (an := A.length) (pc := pc) (asked := asked) (how := 0) (value := 0) (x := ⟨15, d, a, b, m, to⟩) hL hb.1 hb.2
  have hset := fn171y (hn := H.length) (pc := pc) (how := 0) (value := 0) (x := ⟨15, d, a, b, m, to⟩) hL (getW L a).2 hi hA hd.1 hd.2
  try dsimp only at hset
  generalize (getW L a).2 = za at na hset ⊢
  have hL2 : (L.set d.toNat (true, v)).length = 24 := by simpa using hL
  obtain ⟨b0, b1, b2, b3, b4, b5, b6, b7, b8, b9, b10, b11, b12, b13, b14, b15, b16, b17, b18, b19, b20, b21, b22, b23, hLe2⟩ := list24 hL2
  rw [hLe2] at hset ⊢
  obtain ⟨a0, a1, a2, a3, a4, a5, a6, a7, a8, a9, a10, a11, a12, a13, a14, a15, a16, a17, a18, a19, a20, a21, a22, a23, hLe⟩ := list24 hL
  rw [hLe] at na nb hset
  try rw [hLe]
  refine FnOK.of ok158 (Nat.le_refl _) (by decide) fun M => ?_
  conv => whnf
  refine callX na [.old 0, .old 1, .old 2, .old 3, .old 4] rfl rfl rfl rfl ⟨⟨_, rfl, rfl⟩, trivial⟩ ?_
  conv => whnf
  refine callX nb [.old 0, .old 1, .old 2, .old 3, .old 4] rfl rfl rfl rfl ⟨⟨_, rfl, rfl⟩, trivial⟩ ?_
  conv => whnf
  repeat (refine cndP_intro (by first | omega | exact rfl | (show _ ≤ 61; omega)) ?_; conv => whnf)
  refine cndP_intro (apart_calm _ _ (Nat.le_of_ble_eq_true rfl) (by simp only [List.forall_mem_cons]; (repeat' apply And.intro) <;> first | exact rfl | exact chg_same (blk_refl rfl) | exact List.forall_mem_nil _)) ?_
  conv => whnf
  refine callX hset [.old 0, .old 1, .old 2, .old 3, .old 4] rfl rfl rfl rfl ⟨⟨_, rfl, rfl⟩, rfl, trivial⟩ ?_
  conv => whnf
  repeat (refine cndP_intro (by first | omega | exact rfl | (show _ ≤ 61; omega)) ?_; conv => whnf)
  try rw [hp]
  exact retX [.old 0, .old 1, .old 2, .old 3, .old 4, .old 5, .old 3] (.inr rfl) rfl rfl rfl ⟨⟨_, rfl, rfl⟩, ⟨_, rfl, rfl⟩, ⟨_, rfl, rfl⟩, trivial⟩
theorem do15n {x : Ins} {s : Mst} {A : List Int} (h : Pre x s A) (ho : x.op = 15) (hu : hasU x s = true) (hi : A[s.asked]? = none) : DoOK x s A := by
  unfold DoOK
  rw [step15n ho hu hi]
  have hd := h.d
  have ha := h.a
  have hb := h.b
  have hto := h.to
  have hL := h.len
  have hH := h.heap
  have hA := h.A
  have hpc := h.pc
  have hop := h.op
  have hp := pcNext h.pc
  obtain ⟨op, d, a, b, m, to⟩ := x
  obtain ⟨L, H, pc, asked⟩ := s
  simp only at *
  subst ho
  have na := fn167v5 (hn := H.length) (an := A.length) (pc := pc) (asked := asked) (how := 0) (value := 0) (x := ⟨15, d, a, b, m, to⟩) hL ha.1 ha.2
  have nb := fn167v5 (hn := H.length) (an := A.length) (pc := pc) (asked := asked) (how := 0) (value := 0) (x := ⟨15, d, a, b, m, to⟩) hL hb.1 hb.2
  have hset := fn171n (hn := H.length) (pc := pc) (how := 0) (value := 0) (x := ⟨15, d, a, b, m, to⟩) hL (getW L a).2 hi
  generalize (getW L a).2 = za at na hset
  obtain ⟨a0, a1, a2, a3, a4, a5, a6, a7, a8, a9, a10, a11, a12, a13, a14, a15, a16, a17, a18, a19, a20, a21, a22, a23, hLe⟩ := list24 hL
  rw [hLe] at na nb hset
  try rw [hLe]
  refine FnOK.of ok158 (Nat.le_refl _) (by decide) fun M => ?_
  conv => whnf
  refine callX na [.old 0, .old 1, .old 2, .old 3, .old 4] rfl rfl rfl rfl ⟨⟨_, rfl, rfl⟩, trivial⟩ ?_
  conv => whnf
  refine callX nb [.old 0, .old 1, .old 2, .old 3, .old 4] rfl rfl rfl rfl ⟨⟨_, rfl, rfl⟩, trivial⟩ ?_
  conv => whnf
  repeat (refine cndP_intro (by first | omega | exact rfl | (show _ ≤ 61; omega)) ?_; conv => whnf)
  refine cndP_intro (apart_calm _ _ (Nat.le_of_ble_eq_true rfl) (by simp only [List.forall_mem_cons]; (repeat' apply And.intro) <;> first | exact rfl | exact chg_same (blk_refl rfl) | exact List.forall_mem_nil _)) ?_
  conv => whnf
  refine callX hset [.old 0, .old 1, .old 2, .old 3, .old 4] rfl rfl rfl rfl ⟨⟨_, rfl, rfl⟩, rfl, trivial⟩ ?_
  conv => whnf
  repeat (refine cndP_intro (by first | omega | exact rfl | (show _ ≤ 61; omega)) ?_; conv => whnf)
  try rw [hp]
  exact retX [.old 0, .old 1, .old 2, .old 3, .old 4, .old 5, .old 3] (.inr rfl) rfl rfl rfl ⟨⟨_, rfl, rfl⟩, ⟨_, rfl, rfl⟩, ⟨_, rfl, rfl⟩, trivial⟩
theorem doNy {x : Ins} {s : Mst} {A : List Int} (h : Pre x s A) (ho : 4 ≤ x.op ∧ x.op ≤ 12) (hu : hasU x s = true) (hi : (numDo x.op (getW s.L x.a).2 (getW s.L x.b).2).2 = 0) : DoOK x s A := by
  unfold DoOK
  rw [stepNy ho hu hi]
  have hd := h.d
  have ha := h.a
  have hb := h.b
  have hto := h.to
  have hL := h.len
  have hH := h.heap
  have hA := h.A
  have hpc := h.pc
  have hop := h.op
  have hp := pcNext h.pc
  obtain ⟨op, d, a, b, m, to⟩ := x
  obtain ⟨L, H, pc, asked⟩ := s
  simp only at *
  have na := fn167v5 (hn := H.length) (an := A.length) (pc := pc) (asked := asked) (how := 0) (value := 0) (x := ⟨op, d, a, b, m, to⟩) hL ha.1 ha.2
  have nb := fn167v5 (hn := H.length) (an := A.length) (pc := pc) (asked := asked) (how := 0) (value := 0) (x := ⟨op, d, a, b, m, to⟩) hL hb.1 hb.2
  have hm : movesI ⟨op, d, a, b, m, to⟩ = false := by simp [movesI]; omega
  have hnum := fn172 (getW L a).2 (getW L b).2 hop.1 hop.2
  rw [hi] at hnum
  generalize (numDo op (getW L a).2 (getW L b).2).1 = zv at hnum ⊢
  generalize (getW L a).2 = za at na hnum
  generalize (getW L b).2 = zb at nb hnum
  have hset := fn168v5 (hn := H.length) (an := A.length) (pc := pc) (asked := asked) (how := 0) (value := 0) (x := ⟨op, d, a, b, m, to⟩) hL zv 0 hd.1 hd.2
  rw [show setL L d zv 0 = L.set d.toNat (true, zv) from if_pos rfl] at hset
  have hL2 : (L.set d.toNat (true, zv)).length = 24 := by simpa using hL
  obtain ⟨b0, b1, b2, b3, b4, b5, b6, b7, b8, b9, b10, b11, b12, b13, b14, b15, b16, b17, b18, b19, b20, b21, b22, b23, hLe2⟩ := list24 hL2
  rw [hLe2] at hset ⊢
  obtain ⟨a0, a1, a2, a3, a4, a5, a6, a7, a8, a9, a10, a11, a12, a13, a14, a15, a16, a17, a18, a19, a20, a21, a22, a23, hLe⟩ := list24 hL
  rw [hLe] at na nb hset
  try rw [hLe]
  refine FnOK.of ok158 (Nat.le_refl _) (by decide) fun M => ?_
  conv => whnf
  refine callX na [.old 0, .old 1, .old 2, .old 3, .old 4] rfl rfl rfl rfl ⟨⟨_, rfl, rfl⟩, trivial⟩ ?_
  conv => whnf
  refine callX nb [.old 0, .old 1, .old 2, .old 3, .old 4] rfl rfl rfl rfl ⟨⟨_, rfl, rfl⟩, trivial⟩ ?_
  conv => whnf
  repeat (refine cndP_intro (by first | omega | exact rfl | (show _ ≤ 61; omega)) ?_; conv => whnf)
  refine cndP_intro (apart_calm _ _ (Nat.le_of_ble_eq_true rfl) (by simp only [List.forall_mem_cons]; (repeat' apply And.intro) <;> first | exact rfl | exact chg_same (blk_refl rfl) | exact List.forall_mem_nil _)) ?_
  conv => whnf
  repeat (refine brT_false (decide_eq_false (by show ¬ (op = _); omega)) ?_; conv => whnf)
  repeat (refine cndP_intro (by first | omega | exact rfl | (show _ ≤ 61; omega)) ?_; conv => whnf)
  refine callX (fn125 ⟨op, d, a, b, m, to⟩) [.old 0, .old 1] rfl rfl rfl rfl trivial ?_
  rw [hm]
  conv => whnf
  repeat (refine cndP_intro (by first | omega | exact rfl | (show _ ≤ 61; omega)) ?_; conv => whnf)
  refine callX hnum [.old 0, .old 1] rfl rfl rfl rfl trivial ?_
  conv => whnf
  refine callX hset [.old 0, .old 1, .old 2, .old 3, .old 4] rfl rfl rfl rfl ⟨⟨_, rfl, rfl⟩, trivial⟩ ?_
  conv => whnf
  repeat (refine cndP_intro (by first | omega | exact rfl | (show _ ≤ 61; omega)) ?_; conv => whnf)
  try rw [hp]
  exact retX [.old 0, .old 1, .old 2, .old 3, .old 4, .nil, .old 3] (.inr rfl) rfl rfl rfl ⟨⟨_, rfl, rfl⟩, rfl, ⟨_, rfl, rfl⟩, trivial⟩
theorem doNn {x : Ins} {s : Mst} {A : List Int} (h : Pre x s A) (ho : 4 ≤ x.op ∧ x.op ≤ 12) (hu : hasU x s = true) (hi : ¬ (numDo x.op (getW s.L x.a).2 (getW s.L x.b).2).2 = 0) : DoOK x s A := by
  unfold DoOK
  rw [stepNn ho hu hi]
  have hd := h.d
  have ha := h.a
  have hb := h.b
  have hto := h.to
  have hL := h.len
  have hH := h.heap
  have hA := h.A
  have hpc := h.pc
  have hop := h.op
  have hp := pcNext h.pc
  obtain ⟨op, d, a, b, m, to⟩ := x
  obtain ⟨L, H, pc, asked⟩ := s
  simp only at *
  have na := fn167v5 (hn := H.length) (an := A.length) (pc := pc) (asked := asked) (how := 0) (value := 0) (x := ⟨op, d, a, b, m, to⟩) hL ha.1 ha.2
  have nb := fn167v5 (hn := H.length) (an := A.length) (pc := pc) (asked := asked) (how := 0) (value := 0) (x := ⟨op, d, a, b, m, to⟩) hL hb.1 hb.2
  have hm : movesI ⟨op, d, a, b, m, to⟩ = false := by simp [movesI]; omega
  have hnum := fn172 (getW L a).2 (getW L b).2 hop.1 hop.2
  generalize (numDo op (getW L a).2 (getW L b).2).1 = zv at hnum
  generalize (numDo op (getW L a).2 (getW L b).2).2 = zh at hnum hi ⊢
  generalize (getW L a).2 = za at na hnum
  generalize (getW L b).2 = zb at nb hnum
  have hset := fn168v5 (hn := H.length) (an := A.length) (pc := pc) (asked := asked) (how := 0) (value := 0) (x := ⟨op, d, a, b, m, to⟩) hL zv zh hd.1 hd.2
  rw [show setL L d zv zh = L from if_neg hi] at hset
  obtain ⟨a0, a1, a2, a3, a4, a5, a6, a7, a8, a9, a10, a11, a12, a13, a14, a15, a16, a17, a18, a19, a20, a21, a22, a23, hLe⟩ := list24 hL
  rw [hLe] at na nb hset
  try rw [hLe]
  refine FnOK.of ok158 (Nat.le_refl _) (by decide) fun M => ?_
  conv => whnf
  refine callX na [.old 0, .old 1, .old 2, .old 3, .old 4] rfl rfl rfl rfl ⟨⟨_, rfl, rfl⟩, trivial⟩ ?_
  conv => whnf
  refine callX nb [.old 0, .old 1, .old 2, .old 3, .old 4] rfl rfl rfl rfl ⟨⟨_, rfl, rfl⟩, trivial⟩ ?_
  conv => whnf
  repeat (refine cndP_intro (by first | omega | exact rfl | (show _ ≤ 61; omega)) ?_; conv => whnf)
  refine cndP_intro (apart_calm _ _ (Nat.le_of_ble_eq_true rfl) (by simp only [List.forall_mem_cons]; (repeat' apply And.intro) <;> first | exact rfl | exact chg_same (blk_refl rfl) | exact List.forall_mem_nil _)) ?_
  conv => whnf
  repeat (refine brT_false (decide_eq_false (by show ¬ (op = _); omega)) ?_; conv => whnf)
  repeat (refine cndP_intro (by first | omega | exact rfl | (show _ ≤ 61; omega)) ?_; conv => whnf)
  refine callX (fn125 ⟨op, d, a, b, m, to⟩) [.old 0, .old 1] rfl rfl rfl rfl trivial ?_
  rw [hm]
  conv => whnf
  repeat (refine cndP_intro (by first | omega | exact rfl | (show _ ≤ 61; omega)) ?_; conv => whnf)
  refine callX hnum [.old 0, .old 1] rfl rfl rfl rfl trivial ?_
  conv => whnf
  refine callX hset [.old 0, .old 1, .old 2, .old 3, .old 4] rfl rfl rfl rfl ⟨⟨_, rfl, rfl⟩, trivial⟩ ?_
  conv => whnf
  refine brT_false (decide_eq_false hi) ?_
  conv => whnf
  repeat (refine cndP_intro (by first | omega | exact rfl | (show _ ≤ 61; omega)) ?_; conv => whnf)
  try rw [hp]
  exact retX [.old 0, .old 1, .old 2, .old 3, .old 4, .nil, .old 3] (.inr rfl) rfl rfl rfl ⟨⟨_, rfl, rfl⟩, rfl, ⟨_, rfl, rfl⟩, trivial⟩
theorem do1 {x : Ins} {s : Mst} {A : List Int} (h : Pre x s A) (ho : x.op = 1) : DoOK x s A := by
  unfold DoOK
  rw [step1 ho]
  have hd := h.d
  have ha := h.a
  have hb := h.b
  have hto := h.to
  have hL := h.len
  have hH := h.heap
  have hA := h.A
  have hpc := h.pc
  have hop := h.op
  have hp := pcNext h.pc
  obtain ⟨op, d, a, b, m, to⟩ := x
  obtain ⟨L, H, pc, asked⟩ := s
  simp only at *
  subst ho
  have na := fn167v5 (hn := H.length) (an := A.length) (pc := pc) (asked := asked) (how := 0) (value := 0) (x := ⟨1, d, a, b, m, to⟩) hL ha.1 ha.2
  have nb := fn167v5 (hn := H.length) (an := A.length) (pc := pc) (asked := asked) (how := 0) (value := 0) (x := ⟨1, d, a, b, m, to⟩) hL hb.1 hb.2
  have hset := fn173v5 (hn := H.length) (an := A.length) (pc := pc) (asked := asked) (how := 0) (value := 0) (x := ⟨1, d, a, b, m, to⟩) hL hd.1 hd.2 ha.1 ha.2
  rw [show moveL ⟨1, d, a, b, m, to⟩ L = L.set d.toNat (true, m) from if_pos rfl] at hset
  try dsimp only
  have hL2 : (L.set d.toNat (true, m)).length = 24 := by simpa using hL
  obtain ⟨b0, b1, b2, b3, b4, b5, b6, b7, b8, b9, b10, b11, b12, b13, b14, b15, b16, b17, b18, b19, b20, b21, b22, b23, hLe2⟩ := list24 hL2
  rw [hLe2] at hset ⊢
  obtain ⟨a0, a1, a2, a3, a4, a5, a6, a7, a8, a9, a10, a11, a12, a13, a14, a15, a16, a17, a18, a19, a20, a21, a22, a23, hLe⟩ := list24 hL
  rw [hLe] at na nb hset
  try rw [hLe]
  refine FnOK.of ok158 (Nat.le_refl _) (by decide) fun M => ?_
  conv => whnf
  refine callX na [.old 0, .old 1, .old 2, .old 3, .old 4] rfl rfl rfl rfl ⟨⟨_, rfl, rfl⟩, trivial⟩ ?_
  conv => whnf
  refine callX nb [.old 0, .old 1, .old 2, .old 3, .old 4] rfl rfl rfl rfl ⟨⟨_, rfl, rfl⟩, trivial⟩ ?_
  conv => whnf
  repeat (refine cndP_intro (by first | omega | exact rfl | (show _ ≤ 61; omega)) ?_; conv => whnf)
  refine cndP_intro (apart_calm _ _ (Nat.le_of_ble_eq_true rfl) (by simp only [List.forall_mem_cons]; (repeat' apply And.intro) <;> first | exact rfl | exact chg_same (blk_refl rfl) | exact List.forall_mem_nil _)) ?_
  conv => whnf
  repeat (refine cndP_intro (by first | omega | exact rfl | (show _ ≤ 61; omega)) ?_; conv => whnf)
  refine callX (fn125 ⟨1, d, a, b, m, to⟩) [.old 0, .old 1] rfl rfl rfl rfl trivial ?_
  conv => whnf
  repeat (refine cndP_intro (by first | omega | exact rfl | (show _ ≤ 61; omega)) ?_; conv => whnf)
  refine callX hset [.old 0, .old 1, .old 2, .old 3, .old 4] rfl rfl rfl rfl ⟨⟨_, rfl, rfl⟩, trivial⟩ ?_
  conv => whnf
  repeat (refine cndP_intro (by first | omega | exact rfl | (show _ ≤ 61; omega)) ?_; conv => whnf)
  try rw [hp]
  exact retX [.old 0, .old 1, .old 2, .old 3, .old 4, .nil, .old 3] (.inr rfl) rfl rfl rfl ⟨⟨_, rfl, rfl⟩, rfl, ⟨_, rfl, rfl⟩, trivial⟩
theorem do2 {x : Ins} {s : Mst} {A : List Int} (h : Pre x s A) (ho : x.op = 2) : DoOK x s A := by
  unfold DoOK
  rw [step2 ho]
  have hd := h.d
  have ha := h.a
  have hb := h.b
  have hto := h.to
  have hL := h.len
  have hH := h.heap
  have hA := h.A
  have hpc := h.pc
  have hop := h.op
  have hp := pcNext h.pc
  obtain ⟨op, d, a, b, m, to⟩ := x
  obtain ⟨L, H, pc, asked⟩ := s
  simp only at *
  subst ho
  have na := fn167v5 (hn := H.length) (an := A.length) (pc := pc) (asked := asked) (how := 0) (value := 0) (x := ⟨2, d, a, b, m, to⟩) hL ha.1 ha.2
  have nb := fn167v5 (hn := H.length) (an := A.length) (pc := pc) (asked := asked) (how := 0) (value := 0) (x := ⟨2, d, a, b, m, to⟩) hL hb.1 hb.2
  have hset := fn173v5 (hn := H.length) (an := A.length) (pc := pc) (asked := asked) (how := 0) (value := 0) (x := ⟨2, d, a, b, m, to⟩) hL hd.1 hd.2 ha.1 ha.2
  rw [show moveL ⟨2, d, a, b, m, to⟩ L = L.set d.toNat (getW L a) from (if_neg (by show ¬ ((2 : Int) = 1); decide)).trans (if_pos rfl)] at hset
  try dsimp only
  have hL2 : (L.set d.toNat (getW L a)).length = 24 := by simpa using hL
  obtain ⟨b0, b1, b2, b3, b4, b5, b6, b7, b8, b9, b10, b11, b12, b13, b14, b15, b16, b17, b18, b19, b20, b21, b22, b23, hLe2⟩ := list24 hL2
  rw [hLe2] at hset ⊢
  obtain ⟨a0, a1, a2, a3, a4, a5, a6, a7, a8, a9, a10, a11, a12, a13, a14, a15, a16, a17, a18, a19, a20, a21, a22, a23, hLe⟩ := list24 hL
  rw [hLe] at na nb hset
  try rw [hLe]
  refine FnOK.of ok158 (Nat.le_refl _) (by decide) fun M => ?_
  conv => whnf
  refine callX na [.old 0, .old 1, .old 2, .old 3, .old 4] rfl rfl rfl rfl ⟨⟨_, rfl, rfl⟩, trivial⟩ ?_
  conv => whnf
  refine callX nb [.old 0, .old 1, .old 2, .old 3, .old 4] rfl rfl rfl rfl ⟨⟨_, rfl, rfl⟩, trivial⟩ ?_
  conv => whnf
  repeat (refine cndP_intro (by first | omega | exact rfl | (show _ ≤ 61; omega)) ?_; conv => whnf)
  refine cndP_intro (apart_calm _ _ (Nat.le_of_ble_eq_true rfl) (by simp only [List.forall_mem_cons]; (repeat' apply And.intro) <;> first | exact rfl | exact chg_same (blk_refl rfl) | exact List.forall_mem_nil _)) ?_
  conv => whnf
  repeat (refine cndP_intro (by first | omega | exact rfl | (show _ ≤ 61; omega)) ?_; conv => whnf)
  refine callX (fn125 ⟨2, d, a, b, m, to⟩) [.old 0, .old 1] rfl rfl rfl rfl trivial ?_
  conv => whnf
  repeat (refine cndP_intro (by first | omega | exact rfl | (show _ ≤ 61; omega)) ?_; conv => whnf)
  refine callX hset [.old 0, .old 1, .old 2, .old 3, .old 4] rfl rfl rfl rfl ⟨⟨_, rfl, rfl⟩, trivial⟩ ?_
  conv => whnf
  repeat (refine cndP_intro (by first | omega | exact rfl | (show _ ≤ 61; omega)) ?_; conv => whnf)
  try rw [hp]
  exact retX [.old 0, .old 1, .old 2, .old 3, .old 4, .nil, .old 3] (.inr rfl) rfl rfl rfl ⟨⟨_, rfl, rfl⟩, rfl, ⟨_, rfl, rfl⟩, trivial⟩
theorem do3 {x : Ins} {s : Mst} {A : List Int} (h : Pre x s A) (ho : x.op = 3) : DoOK x s A := by
  unfold DoOK
  rw [step3 ho]
  have hd := h.d
  have ha := h.a
  have hb := h.b
  have hto := h.to
  have hL := h.len
  have hH := h.heap
  have hA := h.A
  have hpc := h.pc
  have hop := h.op
  have hp := pcNext h.pc
  obtain ⟨op, d, a, b, m, to⟩ := x
  obtain ⟨L, H, pc, asked⟩ := s
  simp only at *
  subst ho
  have na := fn167v5 (hn := H.length) (an := A.length) (pc := pc) (asked := asked) (how := 0) (value := 0) (x := ⟨3, d, a, b, m, to⟩) hL ha.1 ha.2
  have nb := fn167v5 (hn := H.length) (an := A.length) (pc := pc) (asked := asked) (how := 0) (value := 0) (x := ⟨3, d, a, b, m, to⟩) hL hb.1 hb.2
  have hset := fn173v5 (hn := H.length) (an := A.length) (pc := pc) (asked := asked) (how := 0) (value := 0) (x := ⟨3, d, a, b, m, to⟩) hL hd.1 hd.2 ha.1 ha.2
  rw [show moveL ⟨3, d, a, b, m, to⟩ L = (L.set d.toNat (getW L a)).set a.toNat (getW L d) from (if_neg (by show ¬ ((3 : Int) = 1); decide)).trans ((if_neg (by show ¬ ((3 : Int) = 2); decide)).trans (if_pos rfl))] at hset
  try dsimp only
  have hL2 : ((L.set d.toNat (getW L a)).set a.toNat (getW L d)).length = 24 := by simpa using hL
  obtain ⟨b0, b1, b2, b3, b4, b5, b6, b7, b8, b9, b10, b11, b12, b13, b14, b15, b16, b17, b18, b19, b20, b21, b22, b23, hLe2⟩ := list24 hL2
  rw [hLe2] at hset ⊢
  obtain ⟨a0, a1, a2, a3, a4, a5, a6, a7, a8, a9, a10, a11, a12, a13, a14, a15, a16, a17, a18, a19, a20, a21, a22, a23, hLe⟩ := list24 hL
  rw [hLe] at na nb hset
  try rw [hLe]
  refine FnOK.of ok158 (Nat.le_refl _) (by decide) fun M => ?_
  conv => whnf
  refine callX na [.old 0, .old 1, .old 2, .old 3, .old 4] rfl rfl rfl rfl ⟨⟨_, rfl, rfl⟩, trivial⟩ ?_
  conv => whnf
  refine callX nb [.old 0, .old 1, .old 2, .old 3, .old 4] rfl rfl rfl rfl ⟨⟨_, rfl, rfl⟩, trivial⟩ ?_
  conv => whnf
  repeat (refine cndP_intro (by first | omega | exact rfl | (show _ ≤ 61; omega)) ?_; conv => whnf)
  refine cndP_intro (apart_calm _ _ (Nat.le_of_ble_eq_true rfl) (by simp only [List.forall_mem_cons]; (repeat' apply And.intro) <;> first | exact rfl | exact chg_same (blk_refl rfl) | exact List.forall_mem_nil _)) ?_
  conv => whnf
  repeat (refine cndP_intro (by first | omega | exact rfl | (show _ ≤ 61; omega)) ?_; conv => whnf)
  refine callX (fn125 ⟨3, d, a, b, m, to⟩) [.old 0, .old 1] rfl rfl rfl rfl trivial ?_
  conv => whnf
  repeat (refine cndP_intro (by first | omega | exact rfl | (show _ ≤ 61; omega)) ?_; conv => whnf)
  refine callX hset [.old 0, .old 1, .old 2, .old 3, .old 4] rfl rfl rfl rfl ⟨⟨_, rfl, rfl⟩, trivial⟩ ?_
  conv => whnf
  repeat (refine cndP_intro (by first | omega | exact rfl | (show _ ≤ 61; omega)) ?_; conv => whnf)
  try rw [hp]
  exact retX [.old 0, .old 1, .old 2, .old 3, .old 4, .nil, .old 3] (.inr rfl) rfl rfl rfl ⟨⟨_, rfl, rfl⟩, rfl, ⟨_, rfl, rfl⟩, trivial⟩
theorem do_all {x : Ins} {s : Mst} {A : List Int} (h : Pre x s A) (hm : movesI x = true ∨ hasU x s = true) : DoOK x s A := by
  have hop := h.op
  by_cases m : movesI x = true
  · unfold movesI at m
    rcases of_decide_eq_true m with h1 | h1 | h1 | h1
    · exact do1 h h1
    · exact do2 h h1
    · exact do3 h h1
    · exact do16 h h1
  have hu : hasU x s = true := by simpa [m] using hm
  have m : movesI x = false := by simpa using m
  unfold movesI at m
  have m := of_decide_eq_false m
  by_cases h13 : x.op = 13
  · by_cases hi : inH s.H (getW s.L x.a).2 = true
    · exact do13y h h13 hu hi
    · exact do13n h h13 hu hi
  by_cases h14 : x.op = 14
  · by_cases hi : inH s.H (getW s.L x.a).2 = true
    · exact do14y h h14 hu hi
    · exact do14n h h14 hu hi
  by_cases h15 : x.op = 15
  · cases hi : A[s.asked]? with
    | none => exact do15n h h15 hu hi
    | some v => exact do15y h h15 hu hi
  by_cases h17 : x.op = 17
  · by_cases hz : (getW s.L x.a).2 = 0
    · exact do17y h h17 hu hz
    · exact do17n h h17 hu hz
  by_cases h18 : x.op = 18
  · exact do18 h h18 hu
  by_cases hi : (numDo x.op (getW s.L x.a).2 (getW s.L x.b).2).2 = 0
  · exact doNy h (by omega) hu hi
  · exact doNn h (by omega) hu hi
end Go.Abs
