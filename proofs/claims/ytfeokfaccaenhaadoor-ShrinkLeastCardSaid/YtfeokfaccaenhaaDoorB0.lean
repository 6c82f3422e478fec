/- Compact code, and what it comes to: a formula, reckoned step by step. -/
import Derived.Test.YtfeokfaccaenhaaDoorA11
set_option linter.unusedVariables false
set_option linter.unusedSimpArgs false
namespace Go.Abs
open Go.Lib

/-- One operation, its types looked up. -/
inductive I where
  | mv (x : Operand)
  | pick (c x y : Operand)
  | new (e : TypeId) (z : List Value)
  | box (e : TypeId) (n : Nat) (x : Operand)
  | bld (t : TypeId) (z : List Value) (parts : List (Nat × Nat × Nat × Operand))
  | bsl (e : TypeId) (len sz : Nat) (z : List Value) (parts : List (Nat × Nat × Nat × Operand))
  | ld (n : Option Nat) (x : Operand)
  | st (n : Nat) (x y : Operand)
  | bin (op : BinOp) (x y : Operand)
  | eqs (m : Nat) (t : TypeId) (neg : Bool) (x y : Operand)
  | eqb (neg : Bool) (x y : Operand)
  | eqf (neg : Bool) (x y : Operand)
  | un (op : UnOp) (x : Operand)
  | cvi (k : IntKind) (x : Operand)
  | fa (o : Nat) (x : Operand)
  | ia (z : Nat) (x i : Operand)
  | iaa (len z : Nat) (x i : Operand)
  | ixs (x i : Operand)
  | ixa (len z : Nat) (m : Option Nat) (x i : Operand)
  | slc (z : Nat) (x : Operand) (lo hi : Option Operand)
  | sls (x : Operand) (lo hi : Option Operand)
  | msl (e : TypeId) (z : List Value) (l c : Operand)
  | mmap
  | lkp (zero : Value) (ok : Bool) (m k : Operand)
  | mup (m k v : Operand)
  | clo (f : FuncId) (caps : List Operand)
  | ifc (t : TypeId) (x : Operand)
  | asr (t : TypeId) (z : List Value) (x : Operand)
  | rng (x : Operand)
  | nxt (x : Operand)
  | ext (x : Operand) (i : Nat)
  | nilc (x : Operand)
  | call (f : FuncId) (xs : List Operand)
  | callv (g : Operand) (xs : List Operand)
  | app (e : TypeId) (z : Nat) (s x : Operand)
  | apps (e : TypeId) (s x : Operand)
  | len (x : Operand)
  | lens (x : Operand)
  | lenm (x : Operand)
  | cpy (z : Nat) (d s : Operand)
  | mn (x y : Operand)
  | mx (x y : Operand)
  | b2s (x : Operand)

structure J where
  d : Option Nat
  g : Option (Nat × Bool)
  i : I

inductive C where
  | skip
  | reg (anc : Option (List (List Nat))) (keep : List Nat) (ops : List J)
  | seq (a b : C)
  | cond (c : Operand) (a b : C)
  | block (id : Nat) (c : C)
  | loop (keep : List Nat) (c : C)
  | exit (id : Nat)
  | ret

/-! ### Forced, in passing on what comes -/
/-- What comes of it: a formula, or what a run comes to. -/
structure Ans (R : Type) where
  bad : R
  cnd : (p : Prop) → [Decidable p] → R → R
  frc : V → (V → R) → R
  frcB : Blk → (Blk → R) → R
  frcR : V → (V → R) → R
  frcN : Nat → (Nat → R) → R
/-- The value's outer form, laid bare. -/
def force {R : Type} (v : V) (k : V → R) : R :=
  match v with
  | .val x => k (.val x)
  | .ptr b o => k (.ptr b o)
  | .sl b o l => k (.sl b o l)
  | .mp b => k (.mp b)
  | .fn f cs => k (.fn f cs)
  | .agg cs => k (.agg cs)
  | .tup cs => k (.tup cs)
  | .any => k .any
/-! Forced through and through. -/
def natF {R : Type} (n : Nat) (k : Nat → R) : R := match n with | 0 => k 0 | m + 1 => k (m + 1)
def intF {R : Type} (z : Int) (k : Int → R) : R := match z with | .ofNat n => natF n fun n => k (.ofNat n) | .negSucc n => natF n fun n => k (.negSucc n)
def valF {R : Type} (v : Value) (k : Value → R) : R :=
  match v with
  | .int kd z => intF z fun z => k (.int kd z)
  | .bool b => match b with | true => k (.bool true) | false => k (.bool false)
  | v => k v
mutual
def deep {R : Type} : V → (V → R) → R
  | .val x, k => valF x fun x => k (.val x)
  | .ptr b o, k => natF b fun b => natF o fun o => k (.ptr b o)
  | .sl b o l, k => natF b fun b => natF o fun o => natF l fun l => k (.sl b o l)
  | .mp b, k => natF b fun b => k (.mp b)
  | .fn f cs, k => deepL cs fun cs => k (.fn f cs)
  | .agg cs, k => deepL cs fun cs => k (.agg cs)
  | .tup cs, k => deepL cs fun cs => k (.tup cs)
  | .any, k => k .any
def deepL {R : Type} : List V → (List V → R) → R
  | [], k => k []
  | v :: vs, k => deep v fun v => deepL vs fun vs => k (v :: vs)
end
def deepB {R : Type} (b : Blk) (k : Blk → R) : R :=
  match b with
  | .own e cs => deepL cs fun cs => k (.own e cs)
  | .it s p => natF p fun p => k (.it s p)
  | b => k b
/-- A condition that is plainly so is passed by. -/
def cndP (p : Prop) [i : Decidable p] (r : Prop) : Prop := match i with | .isTrue _ => r | .isFalse _ => False
theorem cndP_eq (p : Prop) [i : Decidable p] (r : Prop) : cndP p r = (p ∧ r) := by
  unfold cndP
  cases i with
  | isTrue h => simp [h]
  | isFalse h => simp [h]
theorem cndP_intro {p : Prop} [i : Decidable p] {r : Prop} (h : p) (k : r) : cndP p r := by rw [cndP_eq]; exact ⟨h, k⟩
/-- Two ways, by a truth value. -/
def brT {R : Type} (t : Bool) (x y : R) : R := match t with | true => x | false => y
theorem brT_intro {t : Bool} {x y : Prop} (h1 : t = true → x) (h2 : t = false → y) : brT t x y := by cases t <;> first | exact h1 rfl | exact h2 rfl
theorem brT_t {x y : Prop} (h : brT true x y) : x := h
theorem brT_f {x y : Prop} (h : brT false x y) : y := h
theorem brT_true {t : Bool} {x y : Prop} (h : t = true) (k : x) : brT t x y := by subst h; exact k
theorem brT_false {t : Bool} {x y : Prop} (h : t = false) (k : y) : brT t x y := by subst h; exact k
def AnsP : Ans Prop := ⟨False, fun p _ r => cndP p r, force, fun b k => k b, fun v k => k v, fun n k => k n⟩
theorem AnsP_bad : AnsP.bad = False := rfl
theorem AnsP_cnd (p : Prop) [Decidable p] (r : Prop) : AnsP.cnd p r = (p ∧ r) := cndP_eq p r
def AnsO (T : Type) : Ans (Option T) := ⟨none, fun p i r => match i with | .isTrue _ => r | .isFalse _ => none, deep, deepB, deep, natF⟩
instance fillOkDec (len : Nat) : ∀ l, Decidable (fillOk len l)
  | [] => .isTrue trivial
  | (o, v) :: r => @instDecidableAnd _ _ _ (@instDecidableAnd _ _ _ (fillOkDec len r))
def valEq : Value → Value → Bool
  | .int k a, .int k' b => decide (k = k') && decide (a = b)
  | .bool a, .bool b => a == b
  | .string a, .string b => decide (a.data.toList = b.data.toList)
  | .slice none 0 0, .slice none 0 0 => true
  | .pointer none, .pointer none => true
  | .map none, .map none => true
  | .nilFunc, .nilFunc => true
  | .nilIface, .nilIface => true
  | _, _ => false
theorem valEq_eq {a b : Value} (h : valEq a b = true) : a = b := by
  unfold valEq at h
  split at h
  · simp at h; rw [h.1, h.2]
  · simp at h; rw [h]
  · rename_i x y
    simp at h
    have : x = y := by cases x; cases y; simp at h; congr 1
    rw [this]
  · rfl
  · rfl
  · rfl
  · rfl
  · rfl
  · cases h
def vSame : V → V → Bool
  | .val a, .val b => valEq a b
  | .ptr b o, .ptr b' o' => decide (b = b') && decide (o = o')
  | .sl b o l, .sl b' o' l' => decide (b = b') && (decide (o = o') && decide (l = l'))
  | .mp b, .mp b' => decide (b = b')
  | _, _ => false
theorem vSame_eq {a b : V} (h : vSame a b = true) : a = b := by
  unfold vSame at h
  split at h
  · rw [valEq_eq h]
  · simp at h; rw [h.1, h.2]
  · simp at h; rw [h.1, h.2.1, h.2.2]
  · simp at h; rw [h]
  · cases h
def vsSame : List V → List V → Bool
  | [], [] => true
  | a :: l, b :: m => vSame a b && vsSame l m
  | _, _ => false
theorem vsSame_eq : ∀ {a b : List V}, vsSame a b = true → a = b
  | [], [], _ => rfl
  | a :: l, b :: m, h => by simp [vsSame] at h; rw [vSame_eq h.1, vsSame_eq h.2]
  | [], _ :: _, h => by cases h
  | _ :: _, [], h => by cases h
def esSame : List (Value × Value) → List (Value × Value) → Bool
  | [], [] => true
  | (a, x) :: l, (b, y) :: m => valEq a b && (valEq x y && esSame l m)
  | _, _ => false
theorem esSame_eq : ∀ {a b : List (Value × Value)}, esSame a b = true → a = b
  | [], [], _ => rfl
  | (a, x) :: l, (b, y) :: m, h => by simp [esSame] at h; rw [valEq_eq h.1, valEq_eq h.2.1, esSame_eq h.2.2]
  | [], _ :: _, h => by cases h
  | _ :: _, [], h => by cases h
/-- Are two blocks plainly the same? -/
def blkSame : Blk → Blk → Bool
  | .own e cs, .own e' cs' => decide (e = e') && vsSame cs cs'
  | .mp es, .mp es' => esSame es es'
  | _, _ => false
theorem blkSame_eq {a b : Blk} (h : blkSame a b = true) : a = b := by
  unfold blkSame at h
  split at h
  · simp at h; rw [h.1, vsSame_eq h.2]
  · rw [esSame_eq h]
  · cases h
section
variable {R : Type} (A : Ans R)
def delK (b : Nat) : HL → (HL → R) → R
  | [], k => k []
  | (c, x) :: l, k => if b = c then delK b l k else delK b l fun l' => k ((c, x) :: l')
def delsK : HL → HL → (HL → R) → R
  | [], L, k => k L
  | (b, _) :: cs, L, k => delK b L fun L' => delsK cs L' k

def appK : HL → HL → (HL → R) → R
  | [], L, k => k L
  | (b, p) :: pr, L, k => A.frcB p fun p => appK pr L fun L' => k ((b, p) :: L')
def setK (fr : Fr) (d : Option Nat) (v : V) (k : Fr → R) : R :=
  match d with
  | some d => k ((d, v) :: fr)
  | none => k fr

/-- Are numbers alike, one by one? -/
def eqInts : List (IntKind × Int) → List (IntKind × Int) → Bool
  | [], [] => true
  | (_, a) :: l, (_, b) :: m => decide (a = b) && eqInts l m
  | _, _ => false

/-- The frame, cut down to some slots. -/
def keepK : List Nat → Fr → (Fr → R) → R
  | [], _, k => k []
  | s :: ss, fr, k => A.frc (fget fr s) fun v => keepK ss fr fun l => k ((s, v) :: l)

variable (gid : Nat → Option Nat)
def evs (F : FF) : List Operand → (List V → R) → R
  | [], k => k []
  | x :: xs, k => A.frc (ev gid F x) fun v => evs F xs fun vs => k (v :: vs)

/-- The cells of a block from one on, as values. -/
def cellsK (b : Option Blk) (o n : Nat) (k : List V → Blk → R) : R :=
  match b with
  | some (.own e cs) => A.cnd (o + n ≤ cs.length) <| k ((cs.drop o).take n) (.own e cs)
  | some (.ro l) => A.cnd (o + n ≤ l.length) <| k (vals ((l.drop o).take n)) (.ro l)
  | _ => A.bad
def cellK (b : Option Blk) (o : Nat) (k : V → Blk → R) : R :=
  match b with
  | some (.own e cs) => match cs[o]? with
    | some c => k c (.own e cs)
    | none => A.bad
  | some (.ro l) => match l[o]? with
    | some v => k (.val v) (.ro l)
    | none => A.bad
  | _ => A.bad

def bnd (F : FF) (o : Option Operand) (dflt : Nat) (k : Nat → R) : R :=
  match o with
  | none => k dflt
  | some y => match ev gid F y with
    | .val (.int _ j) => A.cnd (0 ≤ j) <| k j.toNat
    | _ => A.bad
/-- The parts of a literal: where each lies, its cells' number. -/
def prts (F : FF) : List (Nat × Nat × Nat × Operand) → (List (Nat × V) → R) → R
  | [], k => k []
  | (_, o, z, x) :: r, k => A.frc (ev gid F x) fun v => A.cnd (v.cells.length = z) <| prts F r fun l => k ((o, v) :: l)

variable (call : FuncId → List V → HL → Nat → (V → HL → HL → HL → Nat → R) → R)
/-- One operation: what it comes to, which blocks are read, go, come, and the next number. -/
def stp (fr : Fr) (L : HL) (n : Nat) (k : V → HL → HL → HL → Nat → R) : I → R
  | .mv x => A.frc (ev gid (fget fr) x) fun v => k v [] [] [] n
  | .pick c x y => match ev gid (fget fr) c with
    | .val (.bool t) => brT t (A.frc (ev gid (fget fr) x) fun v => k v [] [] [] n) (A.frc (ev gid (fget fr) y) fun v => k v [] [] [] n)
    | _ => A.bad
  | .new e z => k (.ptr n 0) [] [] [(n, .own e (vals z))] (n + 1)
  | .box e m x => A.frc (ev gid (fget fr) x) fun v => A.cnd (v.cells.length = m) <| A.cnd (v.cells.all V.flat = true) <| k (.ptr n 0) [] [] [(n, .own e v.cells)] (n + 1)
  | .ld none x => match ev gid (fget fr) x with
    | .ptr b o => cellK A (lk L b) o fun v blk => A.frc v fun v => k v [(b, blk)] [] [] n
    | _ => A.bad
  | .ld (some m) x => match ev gid (fget fr) x with
    | .ptr b o => cellsK A (lk L b) o m fun vs blk => k (.agg vs) [(b, blk)] [] [] n
    | _ => A.bad
  | .st m x y => match ev gid (fget fr) x with
    | .ptr b o => match lk L b with
      | some (.own e cs) => A.frc (ev gid (fget fr) y) fun v => A.cnd (v.cells.length = m) <| A.cnd (v.cells.all V.flat = true) <| A.cnd (o + m ≤ cs.length) <| k .any [] [(b, .own e cs)] [(b, .own e (cs.take o ++ v.cells ++ cs.drop (o + m)))] n
      | _ => A.bad
    | _ => A.bad
  | .bin op x y => match ev gid (fget fr) x with
    | .val u => match ev gid (fget fr) y with
      | .val v => match binV op u v with
        | some r => k (.val r) [] [] [] n
        | none => A.bad
      | _ => A.bad
    | _ => A.bad
  | .un op x => match ev gid (fget fr) x with
    | .val u => match unV op u with
      | some r => k (.val r) [] [] [] n
      | none => A.bad
    | _ => A.bad
  | .cvi kd x => match ev gid (fget fr) x with
    | .val (.int _ z) => k (.val (.int kd (kd.wrap z))) [] [] [] n
    | _ => A.bad
  | .fa o x => match ev gid (fget fr) x with
    | .ptr b o' => k (.ptr b (o' + o)) [] [] [] n
    | _ => A.bad
  | .ia z x i => match ev gid (fget fr) x with
    | .sl b o len => match ev gid (fget fr) i with
      | .val (.int _ j) => A.cnd (0 ≤ j) <| A.cnd (j < len) <| k (.ptr b (o + j.toNat * z)) [] [] [] n
      | _ => A.bad
    | _ => A.bad
  | .iaa len z x i => match ev gid (fget fr) x with
    | .ptr b o => match ev gid (fget fr) i with
      | .val (.int _ j) => A.cnd (0 ≤ j) <| A.cnd (j < len) <| k (.ptr b (o + j.toNat * z)) [] [] [] n
      | _ => A.bad
    | _ => A.bad
  | .clo f caps => evs A gid (fget fr) caps fun vs => k (.fn f vs) [] [] [] n
  | .ext x i => match ev gid (fget fr) x with
    | .tup vs => match vs[i]? with
      | some v => A.frc v fun v => k v [] [] [] n
      | none => A.bad
    | _ => A.bad
  | .nilc x => match ev gid (fget fr) x with
    | .ptr b o => k (.ptr b o) [] [] [] n
    | _ => A.bad
  | .len x => match ev gid (fget fr) x with
    | .sl _ _ len => k (.val (.int .i64 len)) [] [] [] n
    | .val (.slice _ len _) => k (.val (.int .i64 len)) [] [] [] n
    | _ => A.bad
  | .lens x => match ev gid (fget fr) x with
    | .val (.string s) => k (.val (.int .i64 s.size)) [] [] [] n
    | _ => A.bad
  | .bld t z ps => prts A gid (fget fr) ps fun l => A.cnd (fillOk z.length l) <| k (.agg (fillV (vals z) l)) [] [] [] n
  | .bsl e len sz z ps => prts A gid (fget fr) ps fun l => A.cnd (fillOk (len * sz) l) <| 
      k (.sl n 0 len) [] [] [(n, .own e (fillV ((List.range (len * sz)).map fun j => V.val (z[j % sz]!)) l))] (n + 1)
  | .eqs m _ neg x y => match ev gid (fget fr) x with
    | .agg cs => match ev gid (fget fr) y with
      | .agg ds => match kints cs with
        | some la => match kints ds with
          | some lb => A.cnd (la.length = m) <| A.cnd (la.map (·.1) = lb.map (·.1)) <| match neg with
            | true => k (.val (.bool (!(eqInts la lb)))) [] [] [] n
            | false => k (.val (.bool (eqInts la lb))) [] [] [] n
          | none => A.bad
        | none => A.bad
      | _ => A.bad
    | _ => A.bad
  | .ixs x i => match ev gid (fget fr) x with
    | .val (.string s) => match ev gid (fget fr) i with
      | .val (.int _ j) => A.cnd (0 ≤ j) <| A.cnd (j < s.size) <| k (.val (.int .u8 ((s.data.toList.getD j.toNat 0).toNat : Int))) [] [] [] n
      | _ => A.bad
    | _ => A.bad
  | .ixa len z m x i => match ev gid (fget fr) x with
    | .agg cs => match ev gid (fget fr) i with
      | .val (.int _ j) => A.cnd (0 ≤ j) <| A.cnd (j < len) <| match m with
        | none => match cs[j.toNat * z]? with
          | some v => A.frc v fun v => k v [] [] [] n
          | none => A.bad
        | some m => A.cnd (j.toNat * z + z ≤ cs.length) <| k (.agg ((cs.drop (j.toNat * z)).take z)) [] [] [] n
      | _ => A.bad
    | _ => A.bad
  | .slc z x lo hi => match ev gid (fget fr) x with
    | .sl b o len => bnd A gid (fget fr) lo 0 fun l => bnd A gid (fget fr) hi len fun h => A.cnd (l ≤ h) <| A.cnd (h ≤ len) <| k (.sl b (o + l * z) (h - l)) [] [] [] n
    | _ => A.bad
  | .sls x lo hi => match ev gid (fget fr) x with
    | .val (.string s) => bnd A gid (fget fr) lo 0 fun l => bnd A gid (fget fr) hi s.size fun h => A.cnd (l ≤ h) <| A.cnd (h ≤ s.size) <| k (.val (.string (s.extract l h))) [] [] [] n
    | _ => A.bad
  | .msl e z x y => match ev gid (fget fr) x with
    | .val (.int _ l) => match ev gid (fget fr) y with
      | .val (.int _ c) => A.cnd (0 ≤ l) <| A.cnd (c = l) <| A.cnd (l ≤ 1000000000) <| k (.sl n 0 l.toNat) [] [] [(n, .own e (vals ((List.range (l.toNat * z.length)).map fun j => z[j % z.length]!)))] (n + 1)
      | _ => A.bad
    | _ => A.bad
  | .rng x => match ev gid (fget fr) x with
    | .val (.string s) => k (.ptr n 0) [] [] [(n, .it s 0)] (n + 1)
    | _ => A.bad
  | .nxt x => match ev gid (fget fr) x with
    | .ptr b o => match o with
      | 0 => match lk L b with
        | some (.it s p) => match decide (p < s.size) with
          | true => k (.tup [.val (.bool true), .val (.int .i64 p), .val (.int .i32 (Utf8.decode s p).1)]) [] [(b, .it s p)] [(b, .it s (p + (Utf8.decode s p).2))] n
          | false => k (.tup [.val (.bool false)]) [(b, .it s p)] [] [] n
        | _ => A.bad
      | _ + 1 => A.bad
    | _ => A.bad
  | .app e z s x => match ev gid (fget fr) x with
    | .sl b2 o2 m => match lk L b2 with
      | some k2 => match ev gid (fget fr) s with
        | .sl b o len => match o with
          | 0 => match lk L b with
            | some (.own e' cs) => A.cnd (e' = e) <| A.cnd (cs.length = len * z) <| A.cnd (o2 + m * z ≤ k2.cellsV.length) <| A.cnd ((k2.sub o2 (m * z)).all V.flat = true) <| A.cnd (len + m ≤ 1000000000) <| 
                k (.sl n 0 (len + m)) [(b2, k2)] [(b, .own e cs)] [(n, .own e (cs ++ k2.sub o2 (m * z)))] (n + 1)
            | _ => A.bad
          | _ + 1 => A.bad
        | .val (.slice none 0 0) => A.cnd (o2 + m * z ≤ k2.cellsV.length) <| A.cnd ((k2.sub o2 (m * z)).all V.flat = true) <| A.cnd (m ≤ 1000000000) <| 
            k (.sl n 0 m) [(b2, k2)] [] [(n, .own e (k2.sub o2 (m * z)))] (n + 1)
        | _ => A.bad
      | none => A.bad
    | .val (.slice none 0 0) => match ev gid (fget fr) s with
      | .sl b o len => k (.sl b o len) [] [] [] n
      | .val (.slice none 0 0) => k (.val (.slice none 0 0)) [] [] [] n
      | _ => A.bad
    | _ => A.bad
  | .b2s x => match ev gid (fget fr) x with
    | .sl b o len => match lk L b with
      | some k2 => A.cnd (o + len ≤ k2.cellsV.length) <| match ku8 (k2.sub o len) with
        | some l => k (.val (.string (strOf l))) [(b, k2)] [] [] n
        | none => A.bad
      | none => A.bad
    | .val (.slice none 0 0) => k (.val (.string (strOf []))) [] [] [] n
    | _ => A.bad
  | .apps e s x => match ev gid (fget fr) x with
    | .val (.string str) => match ev gid (fget fr) s with
      | .sl b o len => match o with
        | 0 => match lk L b with
          | some (.own e' cs) => A.cnd (e' = e) <| A.cnd (cs.length = len) <| A.cnd (len + str.size ≤ 1000000000) <|
              k (.sl n 0 (len + str.size)) [] [(b, .own e cs)] [(n, .own e (cs ++ vals (strCells str)))] (n + 1)
          | _ => A.bad
        | _ + 1 => A.bad
      | .val (.slice none 0 0) => A.cnd (str.size ≤ 1000000000) <| k (.sl n 0 str.size) [] [] [(n, .own e (vals (strCells str)))] (n + 1)
      | _ => A.bad
    | _ => A.bad
  | .mn x y => match ev gid (fget fr) x with
    | .val (.int kd u) => match ev gid (fget fr) y with
      | .val (.int kd' v) => A.cnd (kd' = kd) <| k (.val (.int kd (if v < u then v else u))) [] [] [] n
      | _ => A.bad
    | _ => A.bad
  | .mx x y => match ev gid (fget fr) x with
    | .val (.int kd u) => match ev gid (fget fr) y with
      | .val (.int kd' v) => A.cnd (kd' = kd) <| k (.val (.int kd (if v > u then v else u))) [] [] [] n
      | _ => A.bad
    | _ => A.bad
  | .call f xs => evs A gid (fget fr) xs fun vs => call f vs L n k
  | .callv g xs => match fnOf (ev gid (fget fr) g) with
    | some (f, caps) => evs A gid (fget fr) xs fun vs => call f (vs ++ caps) L n k
    | none => A.bad
  | .eqb neg x y => match ev gid (fget fr) x with
    | .val (.bool a) => match ev gid (fget fr) y with
      | .val (.bool b) => match neg with
        | true => k (.val (.bool (!(a == b)))) [] [] [] n
        | false => k (.val (.bool (a == b))) [] [] [] n
      | _ => A.bad
    | _ => A.bad
  | .eqf neg x y => match ev gid (fget fr) x with
    | .val u => match ev gid (fget fr) y with
      | .val .nilFunc => match isNilF u with
        | some b => match neg with
          | true => k (.val (.bool (!b))) [] [] [] n
          | false => k (.val (.bool b)) [] [] [] n
        | none => A.bad
      | _ => A.bad
    | _ => A.bad
  | .ifc t x => match toVal (ev gid (fget fr) x) with
    | some u => k (.val (.iface t u)) [] [] [] n
    | none => A.bad
  | .asr t z x => match ev gid (fget fr) x with
    | .val (.iface t' u) => brT (decide (t' = t)) (k (.tup [.val u, .val (.bool true)]) [] [] [] n) (k (.tup [.val (.agg z.toArray), .val (.bool false)]) [] [] [] n)
    | _ => A.bad
  | .mmap => k (.mp n) [] [] [(n, .mp [])] (n + 1)
  | .lkp zero ok m ky => match ev gid (fget fr) m with
    | .mp b => match lk L b with
      | some (.mp es) => match ev gid (fget fr) ky with
        | .val (.int kd z) => match mget kd z es with
          | some r => match ok with
            | true => k (.tup [.val (r.getD zero), .val (.bool r.isSome)]) [(b, .mp es)] [] [] n
            | false => k (.val (r.getD zero)) [(b, .mp es)] [] [] n
          | none => A.bad
        | _ => A.bad
      | _ => A.bad
    | _ => A.bad
  | .mup m ky v => match ev gid (fget fr) m with
    | .mp b => match lk L b with
      | some (.mp es) => match ev gid (fget fr) ky with
        | .val (.int kd z) => match toVal (ev gid (fget fr) v) with
          | some u => match mput kd z u es with
            | some es' => k .any [] [(b, .mp es)] [(b, .mp es')] n
            | none => A.bad
          | none => A.bad
        | _ => A.bad
      | _ => A.bad
    | _ => A.bad
  | .lenm x => match ev gid (fget fr) x with
    | .mp b => match lk L b with
      | some (.mp es) => k (.val (.int .i64 es.length)) [(b, .mp es)] [] [] n
      | _ => A.bad
    | _ => A.bad
  | .cpy _ x y => match ev gid (fget fr) x with
    | .sl b o len => match o with
      | 0 => match lk L b with
        | some (.own e cs) => match ev gid (fget fr) y with
          | .sl b2 o2 m => match lk L b2 with
            | some k2 => A.cnd (0 < Nat.min m len) <| A.cnd (Nat.min m len ≤ cs.length) <| A.cnd (o2 + Nat.min m len ≤ k2.cellsV.length) <| A.cnd ((k2.sub o2 (Nat.min m len)).all V.flat = true) <|
                k (.val (.int .i64 (Nat.min m len))) [(b2, k2)] [(b, .own e cs)] [(b, .own e (k2.sub o2 (Nat.min m len) ++ cs.drop (Nat.min m len)))] n
            | none => A.bad
          | _ => A.bad
        | _ => A.bad
      | _ + 1 => A.bad
    | _ => A.bad

/-- Which blocks an operation looks at, and which it changes. -/
abbrev Keys := List (HL × HL × HL)
def keysOf (l : HL) : List Nat := l.map (·.1)

def runJ : List J → Fr → HL → Nat → Keys → (Keys → Fr → HL → Nat → R) → R
  | [], fr, L, n, acc, k => k acc fr L n
  | ⟨d, g, i⟩ :: r, fr, L, n, acc, k =>
    match g with
    | none => stp A gid call fr L n (fun v rd cs pr n' => delsK cs L fun L' => appK A pr L' fun L' => A.frcR v fun v => setK fr d v fun fr => A.frcN n' fun n' => runJ r fr L' n' ((rd, cs, pr) :: acc) k) i
    | some (s, p) => match fget fr s with
      | .val (.bool t) => brT t (match p with
          | true => stp A gid call ((s, .val (.bool true)) :: fr) L n (fun v rd cs pr n' => delsK cs L fun L' => appK A pr L' fun L' => A.frcR v fun v => setK ((s, .val (.bool true)) :: fr) d v fun fr => A.frcN n' fun n' => runJ r fr L' n' ((rd, cs, pr) :: acc) k) i
          | false => setK ((s, .val (.bool true)) :: fr) d undV fun fr => runJ r fr L n (([], [], []) :: acc) k) (match p with
          | true => setK ((s, .val (.bool false)) :: fr) d undV fun fr => runJ r fr L n (([], [], []) :: acc) k
          | false => stp A gid call ((s, .val (.bool false)) :: fr) L n (fun v rd cs pr n' => delsK cs L fun L' => appK A pr L' fun L' => A.frcR v fun v => setK ((s, .val (.bool false)) :: fr) d v fun fr => A.frcN n' fun n' => runJ r fr L' n' ((rd, cs, pr) :: acc) k) i)
      | .val (.tuple ⟨[]⟩) => setK fr d undV fun fr => runJ r fr L n (([], [], []) :: acc) k
      | _ => A.bad

def disj (a b : List Nat) : Bool := a.all fun x => !b.contains x
/-- Do two operations leave each other alone? -/
def chgK (x : HL × HL × HL) : List Nat := (keysOf x.2.1 ++ keysOf x.2.2).filter fun b => match lk x.2.1 b, lk x.2.2 b with
  | some k, some k' => !blkSame k k'
  | _, _ => true
def tchK (x : HL × HL × HL) : List Nat := keysOf x.1 ++ keysOf x.2.1 ++ keysOf x.2.2
def apartK (x y : HL × HL × HL) : Bool :=
  (disj (keysOf x.2.1 ++ keysOf x.2.2) (keysOf y.2.1 ++ keysOf y.2.2) && (disj (keysOf x.2.1 ++ keysOf x.2.2) (keysOf y.1) && disj (keysOf y.2.1 ++ keysOf y.2.2) (keysOf x.1))) ||
  (disj (chgK x) (tchK y) && disj (chgK y) (tchK x))
/-- All that come in no order of their own leave each other alone; in the order of their places, the last one first. -/
def apartAll : List (List Nat) → Keys → Bool
  | nn :: r, k :: ks => (nn.all fun j => apartK ((ks[ks.length - 1 - j]?).getD ([], [], [])) k) && apartAll r ks
  | _, [] => true
  | [], _ :: _ => false
/-- What must come before: all that is not told to come in no order. -/
def ancOf (nan : List (List Nat)) : List (List Nat) := nan.zipIdx.map fun p => (List.range p.2).filter fun j => !p.1.contains j
theorem ancOf_len (nan : List (List Nat)) : (ancOf nan).length = nan.length := by simp [ancOf]
theorem ancOf_get {nan : List (List Nat)} {i : Nat} {an : List Nat} (h : (ancOf nan)[i]? = some an) : ∃ nn, nan[i]? = some nn ∧ an = (List.range i).filter fun j => !nn.contains j := by
  unfold ancOf at h
  rw [List.getElem?_map, List.getElem?_zipIdx] at h
  cases hn : nan[i]? with
  | none => simp [hn] at h
  | some nn => simp [hn] at h; exact ⟨nn, rfl, by simpa using h.symm⟩

/-- One state tells no more than another. -/
def Weak (P : Program) (gid : Nat → Option Nat) (N kk : Nat) (fr : Fr) (L : HL) (n : Nat) (fr2 : Fr) (L2 : HL) (n2 : Nat) : Prop :=
  ∀ E ρ a w, E.k = kk → St P gid N E ρ (fget fr) (lk L) n a w → ∃ ρ2, St P gid N E ρ2 (fget fr2) (lk L2) n2 a w

/-- From a state the loop comes to Q: whatever is closed under its round holds there. -/
def LoopK (P : Program) (gid : Nat → Option Nat) (N kk : Nat) (round : Fr → HL → Nat → (Exit → Fr → HL → Nat → Prop) → Prop) (ks : List Nat) (fr : Fr) (L : HL) (n : Nat) (Q : Exit → Fr → HL → Nat → Prop) : Prop :=
  ∀ X : Fr → HL → Nat → Prop, (∀ fr L n, round fr L n (fun e fr' L' n' => match e with
      | .normal => keepK AnsP ks fr' fun fr' => X fr' L' n'
      | e => Q e fr' L' n') → X fr L n) → (∀ fr L n fr2 L2 n2, Weak P gid N kk fr L n fr2 L2 n2 → X fr2 L2 n2 → X fr L n) → X fr L n

/-- What code comes to, given what loops come to. -/
def wpG (loop : (Fr → HL → Nat → (Exit → Fr → HL → Nat → R) → R) → List Nat → Fr → HL → Nat → (Exit → Fr → HL → Nat → R) → R) : C → Fr → HL → Nat → (Exit → Fr → HL → Nat → R) → R
  | .skip, fr, L, n, Q => Q .normal fr L n
  | .reg an ks ops, fr, L, n, Q => match an with
    | none => runJ A gid call ops fr L n [] fun _ fr L n => keepK A ks fr fun fr => Q .normal fr L n
    | some an => runJ A gid call ops fr L n [] fun acc fr L n => A.cnd (apartAll an.reverse acc = true) <| keepK A ks fr fun fr => Q .normal fr L n
  | .seq a b, fr, L, n, Q => wpG loop a fr L n fun e fr L n => match e with
    | .normal => wpG loop b fr L n Q
    | e => Q e fr L n
  | .cond c a b, fr, L, n, Q => match ev gid (fget fr) c with
    | .val (.bool t) => brT t (wpG loop a fr L n Q) (wpG loop b fr L n Q)
    | _ => A.bad
  | .block id c, fr, L, n, Q => wpG loop c fr L n fun e fr L n => match e with
    | .exit id' => if id' = id then Q .normal fr L n else Q (.exit id') fr L n
    | e => Q e fr L n
  | .exit id, fr, L, n, Q => Q (.exit id) fr L n
  | .ret, fr, L, n, Q => Q .ret fr L n
  | .loop ks c, fr, L, n, Q => keepK A ks fr fun fr => loop (fun fr L n Q => wpG loop c fr L n Q) ks fr L n Q
end


/-- A call that is met by a contract. -/
def CallK (P : Program) (gid : Nat → Option Nat) (f : FuncId) (args : List V) (L : HL) (n : Nat) (k : V → HL → HL → HL → Nat → Prop) : Prop :=
  ∃ (kk n1 : Nat) (args0 : List V) (L0 L1 : HL) (v v2 : V) (l : List Src) (rd cs pr : HL), FnOK P gid f kk args0 L0 v L1 n1 ∧ l.length = kk ∧ (∀ g id, gid g = some id → l[id]? = some (.old id)) ∧
    RenH (pi l) (rd ++ cs) L0 ∧ Inj (pi l) L0 ∧ Gives (pi l) cs L0 ∧ allMine cs ∧ RenL (pi l) args0 args ∧ Fw (sig l n n1) v v2 ∧ FwH (sig l n n1) L1 pr ∧ within L rd ∧ within L cs ∧ k v2 rd cs pr (n + (n1 - kk))


def wpE (P : Program) (gid : Nat → Option Nat) (N kk : Nat) : C → Fr → HL → Nat → (Exit → Fr → HL → Nat → Prop) → Prop :=
  wpG AnsP gid (CallK P gid) (LoopK P gid N kk)


/-! ### Is the compact code the code's? -/
def opEq : Operand → Operand → Bool
  | .tmp a, .tmp b => decide (a = b)
  | .global a, .global b => decide (a = b)
  | .func a, .func b => decide (a = b)
  | .const a, .const b => valEq a b
  | _, _ => false
theorem opEq_eq {a b : Operand} (h : opEq a b = true) : a = b := by
  unfold opEq at h
  split at h
  · simp at h; rw [h]
  · simp at h; rw [h]
  · simp at h; rw [h]
  · rw [valEq_eq h]
  · cases h
def opsEq : List Operand → List Operand → Bool
  | [], [] => true
  | a :: l, b :: m => opEq a b && opsEq l m
  | _, _ => false
theorem opsEq_eq : ∀ {a b : List Operand}, opsEq a b = true → a = b
  | [], [], _ => rfl
  | a :: l, b :: m, h => by simp [opsEq] at h; rw [opEq_eq h.1, opsEq_eq h.2]
  | [], _ :: _, h => by cases h
  | _ :: _, [], h => by cases h
def ooEq : Option Operand → Option Operand → Bool
  | none, none => true
  | some a, some b => opEq a b
  | _, _ => false
theorem ooEq_eq {a b : Option Operand} (h : ooEq a b = true) : a = b := by
  unfold ooEq at h
  split at h
  · rfl
  · rw [opEq_eq h]
  · cases h
def valsEq : List Value → List Value → Bool
  | [], [] => true
  | a :: l, b :: m => valEq a b && valsEq l m
  | _, _ => false
theorem valsEq_eq : ∀ {a b : List Value}, valsEq a b = true → a = b
  | [], [], _ => rfl
  | a :: l, b :: m, h => by simp [valsEq] at h; rw [valEq_eq h.1, valsEq_eq h.2]
  | [], _ :: _, h => by cases h
  | _ :: _, [], h => by cases h
/-- A type's size, and whether it is told cell by cell. -/
def tySize (P : Program) (t : TypeId) (m : Option Nat) : Bool :=
  match P.underlying t, P.info? t with
  | some td, some i => match m with
    | none => !aggD td
    | some m => aggD td && decide (i.size = m)
  | _, _ => false
def tyLen (P : Program) (t : TypeId) (m : Nat) : Bool :=
  match P.info? t with
  | some i => decide (i.size = m)
  | none => false
def tyZero (P : Program) (t : TypeId) (z : List Value) : Bool :=
  match P.info? t with
  | some i => match i.zero with
    | some x => valsEq x.cells.toList z && decide (x.cells.size = i.size)
    | none => false
  | none => false
end Go.Abs
