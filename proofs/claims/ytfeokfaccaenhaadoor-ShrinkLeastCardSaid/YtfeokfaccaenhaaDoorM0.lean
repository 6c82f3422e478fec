/- The machine: a step, a run, as plain functions; what holds of them. -/
import Derived.Test.YtfeokfaccaenhaaDoorR1
set_option linter.unusedVariables false
set_option linter.unusedSimpArgs false
namespace Go.Abs
/-- A machine's state: its places (is there a number? which?), its heap, the next instruction, how many calls were answered. -/
structure Mst where
  L : List (Bool × Int)
  H : List Int
  pc : Nat
  asked : Nat
structure Evn where
  n : Int
  arg : Int
  ans : Int
  deriving DecidableEq
structure Otc where
  how : Int
  value : Int
  heap : List Int
  deriving DecidableEq
structure Trc where
  ev : List Evn
  out : Otc
  steps : Nat
  work : Nat
structure Cas where
  R : List Int
  H : List Int
  A : List Int
  fuel : Int
def w64' (z : Int) : Int := IntKind.i64.wrap z
/-- What comes of an operation of arithmetic, and how. -/
def numDo (op a b : Int) : Int × Int :=
  if op = 4 then (IntKind.i64.wrap (a + b), 0) else if op = 5 then (IntKind.i64.wrap (a - b), 0) else if op = 6 then (IntKind.i64.wrap (a * b), 0)
  else if op = 7 then (if b = 0 then (0, 3) else (IntKind.i64.wrap (a.tdiv b), 0))
  else if op = 8 then (IntKind.i64.wrap (BitVec.ofInt 64 a &&& BitVec.ofInt 64 b).toNat, 0) else if op = 9 then (IntKind.i64.wrap (BitVec.ofInt 64 a ||| BitVec.ofInt 64 b).toNat, 0) else if op = 10 then (IntKind.i64.wrap (BitVec.ofInt 64 a ^^^ BitVec.ofInt 64 b).toNat, 0)
  else if op = 11 then (if a < b then 1 else 0, 0) else if op = 12 then (if a = b then 1 else 0, 0) else (0, 2)
def movesI (x : Ins) : Bool := decide (x.op = 1 ∨ x.op = 2 ∨ x.op = 3 ∨ x.op = 16)
def usesI (x : Ins) : List Int := if (4 ≤ x.op ∧ x.op ≤ 12) ∨ x.op = 14 then [x.a, x.b] else if x.op = 13 ∨ x.op = 15 ∨ x.op = 17 ∨ x.op = 18 then [x.a] else []
def getW (L : List (Bool × Int)) (l : Int) : Bool × Int := (L[l.toNat]?).getD (false, 0)
def goOn : Otc := ⟨0, 0, []⟩
def inH (H : List Int) (a : Int) : Bool := decide (0 ≤ a) && decide (a < H.length)
/-- One step. -/
def stepX (x : Ins) (s : Mst) (A : List Int) : Mst × List Evn × Otc :=
  if x.op = 1 then ({ s with L := s.L.set x.d.toNat (true, x.n), pc := s.pc + 1 }, [], goOn)
  else if x.op = 2 then ({ s with L := s.L.set x.d.toNat (getW s.L x.a), pc := s.pc + 1 }, [], goOn)
  else if x.op = 3 then ({ s with L := (s.L.set x.d.toNat (getW s.L x.a)).set x.a.toNat (getW s.L x.d), pc := s.pc + 1 }, [], goOn)
  else if x.op = 16 then ({ s with pc := x.to.toNat }, [], goOn)
  else if (usesI x).all (fun l => (getW s.L l).1) = false then (s, [], ⟨2, 0, []⟩)
  else if x.op = 13 then (if inH s.H (getW s.L x.a).2 = true then ({ s with L := s.L.set x.d.toNat (true, (s.H[(getW s.L x.a).2.toNat]?).getD 0), pc := s.pc + 1 }, [], goOn) else (s, [], ⟨4, 0, []⟩))
  else if x.op = 14 then (if inH s.H (getW s.L x.a).2 = true then ({ s with H := s.H.set (getW s.L x.a).2.toNat (getW s.L x.b).2, pc := s.pc + 1 }, [], goOn) else (s, [], ⟨4, 0, []⟩))
  else if x.op = 15 then (match A[s.asked]? with
    | some v => ({ s with L := s.L.set x.d.toNat (true, v), pc := s.pc + 1, asked := s.asked + 1 }, [⟨x.n, (getW s.L x.a).2, v⟩], goOn)
    | none => (s, [], ⟨5, 0, []⟩))
  else if x.op = 18 then (s, [], ⟨1, (getW s.L x.a).2, s.H⟩)
  else if x.op = 17 then ({ s with pc := if (getW s.L x.a).2 = 0 then x.to.toNat else s.pc + 1 }, [], goOn)
  else if (numDo x.op (getW s.L x.a).2 (getW s.L x.b).2).2 = 0 then ({ s with L := s.L.set x.d.toNat (true, (numDo x.op (getW s.L x.a).2 (getW s.L x.b).2).1), pc := s.pc + 1 }, [], goOn)
  else (s, [], ⟨(numDo x.op (getW s.L x.a).2 (getW s.L x.b).2).2, 0, []⟩)
section
variable {x : Ins} {s : Mst} {A : List Int}
theorem step1 (h : x.op = 1) : stepX x s A = ({ s with L := s.L.set x.d.toNat (true, x.n), pc := s.pc + 1 }, [], goOn) := by unfold stepX; rw [if_pos h]
theorem step2 (h : x.op = 2) : stepX x s A = ({ s with L := s.L.set x.d.toNat (getW s.L x.a), pc := s.pc + 1 }, [], goOn) := by unfold stepX; rw [if_neg (by omega), if_pos h]
theorem step3 (h : x.op = 3) : stepX x s A = ({ s with L := (s.L.set x.d.toNat (getW s.L x.a)).set x.a.toNat (getW s.L x.d), pc := s.pc + 1 }, [], goOn) := by unfold stepX; rw [if_neg (by omega), if_neg (by omega), if_pos h]
theorem step16 (h : x.op = 16) : stepX x s A = ({ s with pc := x.to.toNat }, [], goOn) := by unfold stepX; rw [if_neg (by omega), if_neg (by omega), if_neg (by omega), if_pos h]
/-- Are all numbers there that it needs? -/
def hasU (x : Ins) (s : Mst) : Bool := (usesI x).all (fun l => (getW s.L l).1)
theorem stepU (h : movesI x = false) (hu : hasU x s = false) : stepX x s A = (s, [], ⟨2, 0, []⟩) := by
  unfold movesI at h; have h := of_decide_eq_false h
  unfold hasU at hu
  unfold stepX; rw [if_neg (by omega), if_neg (by omega), if_neg (by omega), if_neg (by omega), if_pos hu]
theorem stepG (h : movesI x = false) (hu : hasU x s = true) : stepX x s A =
  if x.op = 13 then (if inH s.H (getW s.L x.a).2 = true then ({ s with L := s.L.set x.d.toNat (true, (s.H[(getW s.L x.a).2.toNat]?).getD 0), pc := s.pc + 1 }, [], goOn) else (s, [], ⟨4, 0, []⟩))
  else if x.op = 14 then (if inH s.H (getW s.L x.a).2 = true then ({ s with H := s.H.set (getW s.L x.a).2.toNat (getW s.L x.b).2, pc := s.pc + 1 }, [], goOn) else (s, [], ⟨4, 0, []⟩))
  else if x.op = 15 then (match A[s.asked]? with
    | some v => ({ s with L := s.L.set x.d.toNat (true, v), pc := s.pc + 1, asked := s.asked + 1 }, [⟨x.n, (getW s.L x.a).2, v⟩], goOn)
    | none => (s, [], ⟨5, 0, []⟩))
  else if x.op = 18 then (s, [], ⟨1, (getW s.L x.a).2, s.H⟩)
  else if x.op = 17 then ({ s with pc := if (getW s.L x.a).2 = 0 then x.to.toNat else s.pc + 1 }, [], goOn)
  else if (numDo x.op (getW s.L x.a).2 (getW s.L x.b).2).2 = 0 then ({ s with L := s.L.set x.d.toNat (true, (numDo x.op (getW s.L x.a).2 (getW s.L x.b).2).1), pc := s.pc + 1 }, [], goOn)
  else (s, [], ⟨(numDo x.op (getW s.L x.a).2 (getW s.L x.b).2).2, 0, []⟩) := by
  unfold movesI at h; have h := of_decide_eq_false h
  unfold hasU at hu
  unfold stepX; rw [if_neg (by omega), if_neg (by omega), if_neg (by omega), if_neg (by omega), if_neg (by rw [hu]; decide)]
theorem step13y (h : x.op = 13) (hu : hasU x s = true) (hi : inH s.H (getW s.L x.a).2 = true) : stepX x s A = ({ s with L := s.L.set x.d.toNat (true, (s.H[(getW s.L x.a).2.toNat]?).getD 0), pc := s.pc + 1 }, [], goOn) := by
  rw [stepG (by simp [movesI, h]) hu, if_pos h, if_pos hi]
theorem step13n (h : x.op = 13) (hu : hasU x s = true) (hi : ¬ inH s.H (getW s.L x.a).2 = true) : stepX x s A = (s, [], ⟨4, 0, []⟩) := by
  rw [stepG (by simp [movesI, h]) hu, if_pos h, if_neg hi]
theorem step14y (h : x.op = 14) (hu : hasU x s = true) (hi : inH s.H (getW s.L x.a).2 = true) : stepX x s A = ({ s with H := s.H.set (getW s.L x.a).2.toNat (getW s.L x.b).2, pc := s.pc + 1 }, [], goOn) := by
  rw [stepG (by simp [movesI, h]) hu, if_neg (by omega), if_pos h, if_pos hi]
theorem step14n (h : x.op = 14) (hu : hasU x s = true) (hi : ¬ inH s.H (getW s.L x.a).2 = true) : stepX x s A = (s, [], ⟨4, 0, []⟩) := by
  rw [stepG (by simp [movesI, h]) hu, if_neg (by omega), if_pos h, if_neg hi]
theorem step15y {v : Int} (h : x.op = 15) (hu : hasU x s = true) (hi : A[s.asked]? = some v) : stepX x s A = ({ s with L := s.L.set x.d.toNat (true, v), pc := s.pc + 1, asked := s.asked + 1 }, [⟨x.n, (getW s.L x.a).2, v⟩], goOn) := by
  rw [stepG (by simp [movesI, h]) hu, if_neg (by omega), if_neg (by omega), if_pos h, hi]
theorem step15n (h : x.op = 15) (hu : hasU x s = true) (hi : A[s.asked]? = none) : stepX x s A = (s, [], ⟨5, 0, []⟩) := by
  rw [stepG (by simp [movesI, h]) hu, if_neg (by omega), if_neg (by omega), if_pos h, hi]
theorem step18 (h : x.op = 18) (hu : hasU x s = true) : stepX x s A = (s, [], ⟨1, (getW s.L x.a).2, s.H⟩) := by
  rw [stepG (by simp [movesI, h]) hu, if_neg (by omega), if_neg (by omega), if_neg (by omega), if_pos h]
theorem step17 (h : x.op = 17) (hu : hasU x s = true) : stepX x s A = ({ s with pc := if (getW s.L x.a).2 = 0 then x.to.toNat else s.pc + 1 }, [], goOn) := by
  rw [stepG (by simp [movesI, h]) hu, if_neg (by omega), if_neg (by omega), if_neg (by omega), if_neg (by omega), if_pos h]
theorem stepNy (h : 4 ≤ x.op ∧ x.op ≤ 12) (hu : hasU x s = true) (hi : (numDo x.op (getW s.L x.a).2 (getW s.L x.b).2).2 = 0) : stepX x s A = ({ s with L := s.L.set x.d.toNat (true, (numDo x.op (getW s.L x.a).2 (getW s.L x.b).2).1), pc := s.pc + 1 }, [], goOn) := by
  rw [stepG (by simp [movesI]; omega) hu, if_neg (by omega), if_neg (by omega), if_neg (by omega), if_neg (by omega), if_neg (by omega), if_pos hi]
theorem stepNn (h : 4 ≤ x.op ∧ x.op ≤ 12) (hu : hasU x s = true) (hi : ¬ (numDo x.op (getW s.L x.a).2 (getW s.L x.b).2).2 = 0) : stepX x s A = (s, [], ⟨(numDo x.op (getW s.L x.a).2 (getW s.L x.b).2).2, 0, []⟩) := by
  rw [stepG (by simp [movesI]; omega) hu, if_neg (by omega), if_neg (by omega), if_neg (by omega), if_neg (by omega), if_neg (by omega), if_neg hi]
/-- All ways that a step may go. -/
theorem step_ind {Q : Mst × List Evn × Otc → Prop} (h1 : 1 ≤ x.op) (h2 : x.op ≤ 18)
    (c1 : x.op = 1 → Q ({ s with L := s.L.set x.d.toNat (true, x.n), pc := s.pc + 1 }, [], goOn)) (c2 : x.op = 2 → Q ({ s with L := s.L.set x.d.toNat (getW s.L x.a), pc := s.pc + 1 }, [], goOn))
    (c3 : x.op = 3 → Q ({ s with L := (s.L.set x.d.toNat (getW s.L x.a)).set x.a.toNat (getW s.L x.d), pc := s.pc + 1 }, [], goOn)) (c16 : x.op = 16 → Q ({ s with pc := x.to.toNat }, [], goOn))
    (cS : ∀ v, x.op ≠ 16 → x.op ≠ 18 → Q ({ s with L := s.L.set x.d.toNat (true, v), pc := s.pc + 1 }, [], goOn)) (cH : ∀ a v, x.op = 14 → Q ({ s with H := s.H.set a v, pc := s.pc + 1 }, [], goOn))
    (cC : ∀ v, x.op = 15 → A[s.asked]? = some v → Q ({ s with L := s.L.set x.d.toNat (true, v), pc := s.pc + 1, asked := s.asked + 1 }, [⟨x.n, (getW s.L x.a).2, v⟩], goOn))
    (cZ : x.op = 17 → Q ({ s with pc := if (getW s.L x.a).2 = 0 then x.to.toNat else s.pc + 1 }, [], goOn)) (cE : ∀ o, Q (s, [], o)) : Q (stepX x s A) := by
  by_cases hm : movesI x = true
  · unfold movesI at hm; have hm := of_decide_eq_true hm
    rcases hm with h | h | h | h
    · rw [step1 h]; exact c1 h
    · rw [step2 h]; exact c2 h
    · rw [step3 h]; exact c3 h
    · rw [step16 h]; exact c16 h
  have hm : movesI x = false := by simpa using hm
  have hm' := hm
  unfold movesI at hm'; have hm' := of_decide_eq_false hm'
  by_cases hu : hasU x s = true
  · by_cases e13 : x.op = 13
    · by_cases hi : inH s.H (getW s.L x.a).2 = true
      · rw [step13y e13 hu hi]; exact cS _ (by omega) (by omega)
      · rw [step13n e13 hu hi]; exact cE _
    by_cases e14 : x.op = 14
    · by_cases hi : inH s.H (getW s.L x.a).2 = true
      · rw [step14y e14 hu hi]; exact cH _ _ e14
      · rw [step14n e14 hu hi]; exact cE _
    by_cases e15 : x.op = 15
    · cases hi : A[s.asked]? with
      | none => rw [step15n e15 hu hi]; exact cE _
      | some v => rw [step15y e15 hu hi]; exact cC v e15 hi
    by_cases e18 : x.op = 18
    · rw [step18 e18 hu]; exact cE _
    by_cases e17 : x.op = 17
    · rw [step17 e17 hu]; exact cZ e17
    by_cases hi : (numDo x.op (getW s.L x.a).2 (getW s.L x.b).2).2 = 0
    · rw [stepNy (by omega) hu hi]; exact cS _ (by omega) (by omega)
    · rw [stepNn (by omega) hu hi]; exact cE _
  · rw [stepU hm (by simpa using hu)]; exact cE _
end
def trc0 : Trc := ⟨[], goOn, 0, 0⟩
/-- A trace, one step on. -/
def Trc.on (t : Trc) (x : Ins) (r : Mst × List Evn × Otc) : Trc := ⟨t.ev ++ r.2.1, r.2.2, t.steps + 1, t.work + (if movesI x = true then 0 else 1)⟩
def runL (f : List Ins) (A : List Int) : Nat → Mst → Trc → Mst × Trc
  | 0, s, t => (s, t)
  | k + 1, s, t => match f[s.pc]? with
    | none => (s, t)
    | some x => if (stepX x s A).2.2.how = 0 then runL f A k (stepX x s A).1 (t.on x (stepX x s A)) else ((stepX x s A).1, t.on x (stepX x s A))
def beginS (c : Cas) : Mst := ⟨c.R.map (fun v => (true, v)) ++ List.replicate 16 (false, 0), c.H, 0, 0⟩
def runC (f : List Ins) (c : Cas) : Mst × Trc := runL f c.A c.fuel.toNat (beginS c) trc0
/-- May a case be? -/
def caseOk (c : Cas) : Bool := decide (c.H.length ≤ 16) && (decide (c.A.length ≤ 5000) && (decide (0 ≤ c.fuel) && decide (c.fuel ≤ 5000)))
def fair (f : List Ins) (c : Cas) : Bool := right f && caseOk c

/-! ### What holds of a state -/
structure Okm (f : List Ins) (s : Mst) : Prop where
  len : s.L.length = 24
  wok : ∀ w ∈ s.L, w.1 = false → w.2 = 0
  heap : s.H.length ≤ 16
  pc : s.pc < f.length
theorem getW_mem {L : List (Bool × Int)} {l : Int} (h : L.length = 24) (h0 : 0 ≤ l) (h1 : l < 24) : getW L l ∈ L ∧ L[l.toNat]? = some (getW L l) := by
  have hx : L[l.toNat]? = some (L[l.toNat]'(by omega)) := List.getElem?_eq_getElem (by omega)
  unfold getW
  rw [hx]
  exact ⟨List.getElem_mem _, rfl⟩
theorem wok_set {L : List (Bool × Int)} {i : Nat} {w : Bool × Int} (h : ∀ w ∈ L, w.1 = false → w.2 = 0) (hw : w.1 = false → w.2 = 0) : ∀ w' ∈ L.set i w, w'.1 = false → w'.2 = 0 := by
  intro w' hm
  rcases List.mem_or_eq_of_mem_set hm with h1 | rfl
  · exact h w' h1
  · exact hw
theorem step_ok {f : List Ins} {s : Mst} {x : Ins} {A : List Int} (hr : right f = true) (h : Okm f s) (hx : f[s.pc]? = some x) : Okm f (stepX x s A).1 := by
  have he := right_at hr hx
  have hop := insErr_op he
  obtain ⟨hd, ha, hb⟩ := insErr_loc he
  have hn := right_next hr hx
  have hto := right_to hr hx
  have hga := h.wok _ (getW_mem h.len ha.1 ha.2).1
  have hgd := h.wok _ (getW_mem h.len hd.1 hd.2).1
  refine step_ind (Q := fun r => Okm f r.1) hop.1 hop.2 (fun e => ?_) (fun e => ?_) (fun e => ?_) (fun e => ?_) (fun v e1 e2 => ?_) (fun a v e => ?_) (fun v e _ => ?_) (fun e => ?_) (fun o => h)
  · exact ⟨by simpa using h.len, wok_set h.wok (by simp), h.heap, hn (by omega) (by omega)⟩
  · exact ⟨by simpa using h.len, wok_set h.wok hga, h.heap, hn (by omega) (by omega)⟩
  · exact ⟨by simpa using h.len, wok_set (wok_set h.wok hga) hgd, h.heap, hn (by omega) (by omega)⟩
  · exact ⟨h.len, h.wok, h.heap, by have := hto (by omega); simp only; omega⟩
  · exact ⟨by simpa using h.len, wok_set h.wok (by simp), h.heap, hn e1 e2⟩
  · exact ⟨h.len, h.wok, by simpa using h.heap, hn (by omega) (by omega)⟩
  · exact ⟨by simpa using h.len, wok_set h.wok (by simp), h.heap, hn (by omega) (by omega)⟩
  · exact ⟨h.len, h.wok, h.heap, by have := hto (by omega); have := hn (by omega) (by omega); simp only; split <;> omega⟩
theorem step_pc {f : List Ins} {s : Mst} {x : Ins} {A : List Int} (hr : right f = true) (hx : f[s.pc]? = some x) : (stepX x s A).1.pc < f.length := by
  have hn := right_next hr hx
  have hto := right_to hr hx
  have hp := (List.getElem?_eq_some_iff.1 hx).1
  have hop := insErr_op (right_at hr hx)
  refine step_ind (Q := fun r => r.1.pc < f.length) hop.1 hop.2 (fun e => ?_) (fun e => ?_) (fun e => ?_) (fun e => ?_) (fun v e1 e2 => ?_) (fun a v e => ?_) (fun v e _ => ?_) (fun e => ?_) (fun o => hp)
  all_goals first
    | exact hn (by omega) (by omega)
    | (have := hto (by omega); simp only; omega)
    | (have := hto (by omega); have := hn (by omega) (by omega); simp only; split <;> omega)
theorem begin_ok {f : List Ins} {c : Cas} (hr : right f = true) (hR : c.R.length = 8) (hc : caseOk c = true) : Okm f (beginS c) := by
  simp only [caseOk, Bool.and_eq_true, decide_eq_true_eq] at hc
  refine ⟨by simp [beginS, hR], fun w hw => ?_, hc.1, (right_len hr).1⟩
  simp only [beginS, List.mem_append, List.mem_map, List.mem_replicate] at hw
  rcases hw with ⟨v, _, rfl⟩ | ⟨_, rfl⟩
  · simp
  · simp
theorem run_ok {f : List Ins} {A : List Int} (hr : right f = true) : ∀ (k : Nat) {s : Mst} {t : Trc}, Okm f s → Okm f (runL f A k s t).1
  | 0, s, t, h => h
  | k + 1, s, t, h => by
    simp only [runL]
    split
    · exact h
    · rename_i x hx
      split
      · exact run_ok hr k (step_ok hr h hx)
      · exact step_ok hr h hx
theorem run_pc {f : List Ins} {A : List Int} (hr : right f = true) : ∀ (k : Nat) {s : Mst} {t : Trc}, s.pc < f.length → (runL f A k s t).1.pc < f.length
  | 0, s, t, h => h
  | k + 1, s, t, h => by
    simp only [runL]
    split
    · exact h
    · rename_i x hx
      split
      · exact run_pc hr k (step_pc hr hx)
      · exact step_pc hr hx
/-! ### Runs grow -/
theorem run_ev {f : List Ins} {A : List Int} : ∀ (k : Nat) (s : Mst) (t : Trc), t.ev <+: (runL f A k s t).2.ev
  | 0, s, t => List.prefix_refl _
  | k + 1, s, t => by
    simp only [runL]
    split
    · exact List.prefix_refl _
    · rename_i x hx
      have h1 : t.ev <+: (t.on x (stepX x s A)).ev := List.prefix_append _ _
      split
      · exact h1.trans (run_ev k _ _)
      · exact h1
theorem run_add {f : List Ins} {A : List Int} : ∀ (k j : Nat) (s : Mst) (t : Trc), t.out.how = 0 → runL f A (k + j) s t = if (runL f A k s t).2.out.how = 0 then runL f A j (runL f A k s t).1 (runL f A k s t).2 else runL f A k s t
  | 0, j, s, t, h => by simp [runL, h]
  | k + 1, j, s, t, h => by
    rw [show k + 1 + j = (k + j) + 1 by omega]
    cases hx : f[s.pc]? with
    | none =>
      simp only [runL, hx, h, if_true]
      cases j with
      | zero => rfl
      | succ j => simp only [runL, hx]
    | some x =>
      by_cases h0 : (stepX x s A).2.2.how = 0
      · simp only [runL, hx, h0, if_true]
        exact run_add k j _ _ h0
      · have h1 : ¬ (t.on x (stepX x s A)).out.how = 0 := h0
        simp only [runL, hx, h0, if_false, h1]
/-- With more answers: the same, or one that stood mute goes on. -/
theorem run_answers {f : List Ins} {A A' : List Int} (hA : A <+: A') : ∀ (k : Nat) (s : Mst) (t : Trc), runL f A k s t = runL f A' k s t ∨ ((runL f A k s t).2.out.how = 5 ∧ (runL f A k s t).2.ev <+: (runL f A' k s t).2.ev)
  | 0, s, t => .inl rfl
  | k + 1, s, t => by
    simp only [runL]
    split
    · exact .inl rfl
    · rename_i x hx
      have hs : stepX x s A = stepX x s A' ∨ stepX x s A = (s, [], ⟨5, 0, []⟩) := by
        unfold stepX
        by_cases h15 : x.op = 15
        · cases ha : A[s.asked]? with
          | none =>
            simp only [h15, ha]
            by_cases hu : ((usesI x).all fun l => (getW s.L l).fst) = false
            · left; simp [hu]
            · right; simp [hu]
          | some v =>
            obtain ⟨r, rfl⟩ := hA
            have : (A ++ r)[s.asked]? = some v := by rw [List.getElem?_append_left (List.getElem?_eq_some_iff.1 ha).1]; exact ha
            exact .inl (by rw [this])
        · simp [h15]
      rcases hs with h | h
      · rw [h]
        split
        · exact run_answers hA k _ _
        · exact .inl rfl
      · right
        rw [h]
        have h1 : t.ev <+: (t.on x (stepX x s A')).ev := List.prefix_append _ _
        simp only [Trc.on, List.append_nil]
        refine ⟨rfl, ?_⟩
        show t.ev <+: _
        split
        · exact h1.trans (run_ev k _ _)
        · exact h1
end Go.Abs
