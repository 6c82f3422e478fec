/- Ways to prove what functions come to: returns, calls; the data of this program. -/
import Derived.Test.YtfeokfaccaenhaaDoorB3
set_option linter.unusedVariables false
set_option linter.unusedSimpArgs false
namespace Go.Abs

def gidD : Nat → Option Nat := fun g => match g with
  | 1 => some 0
  | 0 => some 1
  | _ => none
theorem gidD_lt : ∀ g id, gidD g = some id → id < 2 := by
  intro g id h
  unfold gidD at h
  split at h <;> simp at h <;> omega
def tabOf (l : List (Nat × C × List Rs × Nat)) (f : Nat) : Option (C × List Rs × Nat) := (l.find? fun p => p.1 == f).map (·.2)
def isT : Option (V × HL × Nat) → Bool
  | some (.val (.bool true), _, _) => true
  | _ => false

mutual
theorem ren_flat {π : Nat → Option Src} : ∀ (v : V), idsV 0 v = true → Ren π v v
  | .val _, _ => by simp [Ren]
  | .any, _ => by simp [Ren]
  | .ptr b o, h => by simp [idsV] at h
  | .sl b o l, h => by simp [idsV] at h
  | .mp b, h => by simp [idsV] at h
  | .fn f cs, h => by simp only [idsV] at h; simp only [Ren]; exact ⟨_, rfl, renL_flat cs h⟩
  | .agg cs, h => by simp only [idsV] at h; simp only [Ren]; exact ⟨_, rfl, renL_flat cs h⟩
  | .tup cs, h => by simp only [idsV] at h; simp only [Ren]; exact ⟨_, rfl, renL_flat cs h⟩
theorem renL_flat {π : Nat → Option Src} : ∀ (v : List V), idsL 0 v = true → RenL π v v
  | [], _ => by simp [RenL]
  | v :: vs, h => by
    simp only [idsL, Bool.and_eq_true] at h
    simp only [RenL]
    exact ⟨ren_flat v h.1, renL_flat vs h.2⟩
end
theorem fw_flat {σ : Nat → Option Nat} (v : V) (h : idsV 0 v = true) : Fw σ v v := fw_id (n1 := 0) (fun b hb => absurd hb (Nat.not_lt_zero b)) v h

section
variable {P : Program} {gid : Nat → Option Nat}
/-- What a body must come to, with the results' places told. -/
def RetR (rs : List Rs) (k : Nat) (v : V) (L1 : HL) (n1 : Nat) : Exit → Fr → HL → Nat → Prop := fun e fr L n =>
  (e = .ret ∨ e = .normal) ∧ ∃ vs π, rsL fr L rs = some vs ∧ Ren π v (tupV vs) ∧ (∀ i, i < k → π i = some (.old i)) ∧ (∀ i, n1 ≤ i → π i = none) ∧ RenH π L L1 ∧ Inj π L1

/-- .. shut up. -/
structure RetS (rs : List Rs) (k : Nat) (v : V) (L1 : HL) (n1 : Nat) (e : Exit) (fr : Fr) (L : HL) (n : Nat) : Prop where
  h : RetR rs k v L1 n1 e fr L n
/-- A function's contract, by its compact code. -/
theorem FnOK.of {f : FuncId} {c : C} {rs : List Rs} {N k n1 : Nat} {args : List V} {L0 L1 : HL} {v : V} (ht : tabOk P f c rs N = true) (ha : args.length ≤ N) (hle : k ≤ n1) (h : ∀ M, wpX P gid M k 400 c (initFr args) L0 k (RetS rs k v L1 n1)) : FnOK P gid f k args L0 v L1 n1 := by
  unfold tabOk at ht
  split at ht
  · rename_i fn hfn
    split at ht
    · rename_i b hb
      simp only [Bool.and_eq_true, Bool.not_eq_true', beq_eq_false_iff_ne, ne_eq, decide_eq_true_eq] at ht
      obtain ⟨hN, h1, h2, h3⟩ := ht
      refine FnOK.intro hfn hb h3 hle (Nat.le_trans ha hN) (wpE_sound h1 (wpE_mono (fun e fr L n h => ?_) (wpX_sound (h fn.ntmps))))
      obtain ⟨⟨he, vs, π, h4, h5⟩⟩ := h
      exact ⟨he, vs, π, rs_ok h2 h4, h5⟩
    · cases ht
  · cases ht
theorem gidD_idl (g id : Nat) (h : gidD g = some id) : (idl 2)[id]? = some (.old id) := idl_get (gidD_lt g id h)

theorem w64 {z : Int} (h1 : -9223372036854775808 ≤ z) (h2 : z ≤ 9223372036854775807) : IntKind.i64.wrap z = z := by
  have e1 : ((2 : Int) ^ 64) = 18446744073709551616 := rfl
  have e2 : ((2 : Int) ^ (64 - 1)) = 9223372036854775808 := rfl
  simp only [IntKind.wrap, IntKind.bits, IntKind.signed, e1, e2, Bool.true_and, decide_eq_true_eq]
  split <;> omega
end

/-! ### Instructions -/
structure Ins where
  op : Int
  d : Int
  a : Int
  b : Int
  n : Int
  to : Int
  deriving DecidableEq

def i64 (z : Int) : Value := .int .i64 z
def Ins.cells (x : Ins) : List Value := [i64 x.op, i64 x.d, i64 x.a, i64 x.b, i64 x.n, i64 x.to]
def insCells (f : List Ins) : List Value := f.flatMap Ins.cells
theorem insCells_len (f : List Ins) : (insCells f).length = f.length * 6 := by
  induction f with
  | nil => rfl
  | cons x f ih => simp [insCells, Ins.cells] at ih ⊢; omega
theorem insCells_at : ∀ {f : List Ins} {i : Nat} {x : Ins}, f[i]? = some x → ((insCells f).drop (i * 6)).take 6 = x.cells
  | [], i, x, h => by simp at h
  | y :: f, 0, x, h => by simp at h; subst h; rfl
  | y :: f, i + 1, x, h => by
    have : (insCells (y :: f)).drop ((i + 1) * 6) = (insCells f).drop (i * 6) := by
      have e : (i + 1) * 6 = i * 6 + 6 := by omega
      rw [e, show insCells (y :: f) = y.cells ++ insCells f from rfl, Nat.add_comm, ← List.drop_drop]
      rfl
    rw [this]
    exact insCells_at (by simpa using h)

def stringV (l : List UInt8) : Value := .string ⟨l.toArray⟩
def shapesV : List Value := [.string ⟨#[99, 111, 110, 115, 116]⟩, .string ⟨#[100, 78]⟩, .string ⟨#[109, 111, 118]⟩, .string ⟨#[100, 97]⟩, .string ⟨#[115, 119, 97, 112]⟩, .string ⟨#[100, 97]⟩, .string ⟨#[97, 100, 100]⟩, .string ⟨#[68, 65, 66]⟩, .string ⟨#[115, 117, 98]⟩, .string ⟨#[68, 65, 66]⟩, .string ⟨#[109, 117, 108]⟩, .string ⟨#[68, 65, 66]⟩, .string ⟨#[100, 105, 118]⟩, .string ⟨#[68, 65, 66]⟩, .string ⟨#[97, 110, 100]⟩, .string ⟨#[68, 65, 66]⟩, .string ⟨#[111, 114]⟩, .string ⟨#[68, 65, 66]⟩, .string ⟨#[120, 111, 114]⟩, .string ⟨#[68, 65, 66]⟩, .string ⟨#[108, 101, 115, 115]⟩, .string ⟨#[68, 65, 66]⟩, .string ⟨#[115, 97, 109, 101]⟩, .string ⟨#[68, 65, 66]⟩, .string ⟨#[108, 111, 97, 100]⟩, .string ⟨#[68, 65]⟩, .string ⟨#[115, 116, 111, 114, 101]⟩, .string ⟨#[65, 66]⟩, .string ⟨#[99, 97, 108, 108]⟩, .string ⟨#[68, 65, 78]⟩, .string ⟨#[106, 117, 109, 112]⟩, .string ⟨#[84]⟩, .string ⟨#[122, 101, 114, 111]⟩, .string ⟨#[65, 84]⟩, .string ⟨#[114, 101, 116]⟩, .string ⟨#[65]⟩]
/-- An instruction as a value. -/
def Ins.v (x : Ins) : V := .agg (vals x.cells)
end Go.Abs
