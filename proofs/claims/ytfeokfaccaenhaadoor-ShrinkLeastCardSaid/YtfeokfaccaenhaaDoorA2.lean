/- The abstract logic, part 2: one law for each operation. -/
import Derived.Test.YtfeokfaccaenhaaDoorA1
import Derived.Laws.CopyRow
import Derived.Laws.Cells
import Derived.Laws.NewFold
set_option linter.unusedVariables false
set_option linter.unusedSimpArgs false
namespace Go.Abs
section
variable {P : Program} {gid : Nat → Option Nat}

def V.flat : V → Bool
  | .val x => x.oneCell'
  | .ptr .. | .sl .. | .mp .. | .fn .. => true
  | _ => false

theorem flat_cell {ρ : Env} {c : V} {v : Value} (h : c.flat = true) (hv : Vr ρ c v) : v.oneCell' = true := by
  cases c <;> simp only [V.flat, Bool.false_eq_true] at h <;> simp only [Vr] at hv
  · subst hv; exact h
  · obtain ⟨l, a, _, _, rfl⟩ := hv; rfl
  · obtain ⟨l, A, c, _, rfl, _⟩ := hv; rfl
  · obtain ⟨l, a, _, _, rfl⟩ := hv; rfl
  · obtain ⟨vs, rfl, _⟩ := hv; rfl

theorem flat_cells {ρ : Env} : ∀ {cs : List V} {vs : List Value}, cs.all V.flat = true → VrL ρ cs vs → ∀ v ∈ vs, v.oneCell' = true
  | [], [], _, _, v, hv => by simp at hv
  | c :: cs, x :: vs, h, hv, v, hm => by
    simp only [VrL] at hv
    simp only [List.all_cons, Bool.and_eq_true] at h
    rcases List.mem_cons.1 hm with rfl | hm
    · exact flat_cell h.1 hv.1
    · exact flat_cells h.2 hv.2 v hm
  | [], _ :: _, _, hv, _, _ => by simp only [VrL] at hv
  | _ :: _, [], _, hv, _, _ => by simp only [VrL] at hv

theorem Vr_cells {ρ : Env} {c : V} {v : Value} (h : Vr ρ c v) (hf : (c.cells.all V.flat) = true) : VrL ρ c.cells v.cells.toList := by
  cases c with
  | val x => simp only [Vr] at h; subst h; simp only [V.cells]; exact VrL_vals.2 rfl
  | agg cs => simp only [Vr] at h; obtain ⟨vs, rfl, h⟩ := h; simpa [V.cells, Value.cells] using h
  | ptr b o => have h' := h; simp only [Vr] at h'; obtain ⟨l, a, _, _, rfl⟩ := h'; simp [V.cells, Value.cells, VrL, h]
  | sl b o n => have h' := h; simp only [Vr] at h'; obtain ⟨l, A, c, _, rfl, _⟩ := h'; simp [V.cells, Value.cells, VrL, h]
  | mp b => have h' := h; simp only [Vr] at h'; obtain ⟨l, a, _, _, rfl⟩ := h'; simp [V.cells, Value.cells, VrL, h]
  | fn f cs => have h' := h; simp only [Vr] at h'; obtain ⟨vs, rfl, _⟩ := h'; simp [V.cells, Value.cells, VrL, h]
  | tup cs => simp [V.cells, V.flat] at hf
  | any => simp [V.cells, V.flat] at hf

/-! ### The general form -/
theorem OpOK.mk {o : Oper} {F : FF} {rd cs pr : HL} {n n' : Nat} {v : V} (hle : n ≤ n')
    (h : ∀ (E : Ent) (ρ : Env) (H : Hp) (w : World) (a : Act), WSt P gid E ρ H w → E.k ≤ n → (∀ x ∈ o.op.operands, Vr ρ (ev gid F x) (a.eval x)) →
      (∀ b k, lk rd b = some k → H b = some k) → (∀ b k, lk cs b = some k → H b = some k) → (∀ i, n ≤ i → i < n' → ρ i = none) →
      ∃ x w' ρ' r, (execOp a.eval o).run P w = .ok r w' ∧ (r = .value x ∨ r = .skip ∧ x = undef) ∧ Grow n n' ρ ρ' ∧ WSt P gid E ρ' (upd H cs pr) w' ∧ Vr ρ' v x) :
    OpOK P gid o F rd cs pr n n' v := by
  refine ⟨hle, fun E ρ H w a h1 h2 h3 h4 h5 h6 K Q hK => ?_⟩
  obtain ⟨x, w', ρ', r, hr, hx, hg, hw, hv⟩ := h E ρ H w a h1 h2 h3 h4 h5 h6
  unfold Oper.wp
  rw [hr]
  rcases hx with rfl | ⟨rfl, rfl⟩
  · exact hK _ _ _ hg hw hv
  · exact hK _ _ _ hg hw hv

/-- Nothing in the world turns. -/
theorem OpOK.pure {o : Oper} {F : FF} {rd : HL} {n : Nat} {v : V}
    (h : ∀ (E : Ent) (ρ : Env) (H : Hp) (w : World) (a : Act), WSt P gid E ρ H w → (∀ x ∈ o.op.operands, Vr ρ (ev gid F x) (a.eval x)) → (∀ b k, lk rd b = some k → H b = some k) →
      ∃ x, (execOp a.eval o).run P w = .ok (.value x) w ∧ Vr ρ v x) : OpOK P gid o F rd [] [] n n v :=
  OpOK.mk (Nat.le_refl _) fun E ρ H w a h1 _ h3 h4 _ _ => by
    obtain ⟨x, hx, hv⟩ := h E ρ H w a h1 h3 h4
    exact ⟨x, w, ρ, _, hx, .inl rfl, ⟨Ext.refl _, fun i h h' => absurd h h'⟩, by rw [upd_nil]; exact h1, hv⟩

section
variable {F : FF} {n : Nat} {d : Option Tmp} {ty : TypeId} {pos : String} {aft : Array Edge} {gd : Option (Nat × Bool)}

theorem ok_move (x : Operand) : OpOK P gid ⟨d, .move x, ty, pos, aft, gd⟩ F [] [] [] n n (ev gid F x) :=
  OpOK.pure fun E ρ H w a h1 h3 _ => ⟨a.eval x, by simp [execOp], h3 x (by simp [Op.operands])⟩
theorem ok_assign (x : Operand) : OpOK P gid ⟨d, .assign x, ty, pos, aft, gd⟩ F [] [] [] n n (ev gid F x) :=
  OpOK.pure fun E ρ H w a h1 h3 _ => ⟨a.eval x, by simp [execOp], h3 x (by simp [Op.operands])⟩
theorem ok_pick (c x y : Operand) {t : Bool} (hc : ev gid F c = .val (.bool t)) : OpOK P gid ⟨d, .pick c x y, ty, pos, aft, gd⟩ F [] [] [] n n (if t then ev gid F x else ev gid F y) :=
  OpOK.pure fun E ρ H w a h1 h3 _ => by
    have h0 := h3 c (by simp [Op.operands])
    have hx := h3 x (by simp [Op.operands])
    have hy := h3 y (by simp [Op.operands])
    rw [hc] at h0
    simp only [Vr] at h0
    refine ⟨if t then a.eval x else a.eval y, by simp [execOp, h0, asBool], ?_⟩
    cases t <;> simpa
theorem ok_nilCheck (x : Operand) {b o : Nat} (hx : ev gid F x = .ptr b o) : OpOK P gid ⟨d, .nilCheck x, ty, pos, aft, gd⟩ F [] [] [] n n (.ptr b o) :=
  OpOK.pure fun E ρ H w a h1 h3 _ => by
    have h0 := h3 x (by simp [Op.operands])
    rw [hx] at h0
    refine ⟨a.eval x, ?_, h0⟩
    simp only [Vr] at h0
    obtain ⟨l, ad, _, _, he⟩ := h0
    simp [execOp, he]
theorem ok_extract (x : Operand) (i : Nat) {vs : List V} {v : V} (hx : ev gid F x = .tup vs) (hi : vs[i]? = some v) : OpOK P gid ⟨d, .extract x i, ty, pos, aft, gd⟩ F [] [] [] n n v :=
  OpOK.pure fun E ρ H w a h1 h3 _ => by
    have h0 := h3 x (by simp [Op.operands])
    rw [hx] at h0
    simp only [Vr] at h0
    obtain ⟨us, he, hl⟩ := h0
    obtain ⟨u, h4, h5⟩ := hl.get hi
    exact ⟨u, by simp [execOp, he, Instr.extract, h4], h5⟩
theorem evalL {ρ : Env} {a : Act} : ∀ {l : List Operand}, (∀ x ∈ l, Vr ρ (ev gid F x) (a.eval x)) → VrL ρ (l.map (ev gid F)) (l.map a.eval)
  | [], _ => by simp [VrL]
  | x :: l, h => by simp only [List.map_cons, VrL]; exact ⟨h x (by simp), evalL fun y hy => h y (by simp [hy])⟩
theorem ok_makeFunc (f : FuncId) (caps : List Operand) : OpOK P gid ⟨d, .makeFunc (.func f) #[] caps.toArray, ty, pos, aft, gd⟩ F [] [] [] n n (.fn f (caps.map (ev gid F))) :=
  OpOK.pure fun E ρ H w a h1 h3 _ => by
    refine ⟨.func (.func f) #[] (caps.map a.eval).toArray, by simp [execOp, Instr.makeFunc], ?_⟩
    simp only [Vr]
    exact ⟨_, rfl, evalL fun x hx => h3 x (by simpa [Op.operands] using hx)⟩

/-! Numbers -/
/-- What comes of an operation on two plain values. -/
def binV : BinOp → Value → Value → Option Value
  | .add, .int k a, .int k' b => if k = k' then some (.int k (k.wrap (a + b))) else none
  | .sub, .int k a, .int k' b => if k = k' then some (.int k (k.wrap (a - b))) else none
  | .mul, .int k a, .int k' b => if k = k' then some (.int k (k.wrap (a * b))) else none
  | .quo, .int k a, .int k' b => if k = k' ∧ b ≠ 0 then some (.int k (k.wrap (a.tdiv b))) else none
  | .rem, .int k a, .int k' b => if k = k' ∧ b ≠ 0 then some (.int k (a.tmod b)) else none
  | .and, .int k a, .int k' b => if k = k' then some (.int k (k.wrap (BitVec.ofInt k.bits a &&& BitVec.ofInt k.bits b).toNat)) else none
  | .or, .int k a, .int k' b => if k = k' then some (.int k (k.wrap (BitVec.ofInt k.bits a ||| BitVec.ofInt k.bits b).toNat)) else none
  | .xor, .int k a, .int k' b => if k = k' then some (.int k (k.wrap (BitVec.ofInt k.bits a ^^^ BitVec.ofInt k.bits b).toNat)) else none
  | .eql, .int k a, .int k' b => if k = k' then some (.bool (decide (a = b))) else none
  | .neq, .int k a, .int k' b => if k = k' then some (.bool (decide (a ≠ b))) else none
  | .lss, .int k a, .int k' b => if k = k' then some (.bool (decide (a < b))) else none
  | .leq, .int k a, .int k' b => if k = k' then some (.bool (decide (a ≤ b))) else none
  | .gtr, .int k a, .int k' b => if k = k' then some (.bool (decide (a > b))) else none
  | .geq, .int k a, .int k' b => if k = k' then some (.bool (decide (a ≥ b))) else none
  | .eql, .string a, .string b => some (.bool (decide (a.toList = b.toList)))
  | .neq, .string a, .string b => some (.bool (decide (a.toList ≠ b.toList)))
  | .add, .string a, .string b => if a.size + b.size ≤ 9223372036854775807 then some (.string (a ++ b)) else none
  | _, _, _ => none

theorem eqGuard_int (op : BinOp) (t : TypeId) (x y : Operand) (k k' : IntKind) (a b : Int) (w : World) : (eqGuard op t x y (.int k a) (.int k' b)).run P w = .ok () w := by
  unfold eqGuard
  cases op <;> simp
theorem eqGuard_string (op : BinOp) (t : TypeId) (x y : Operand) (a b : ByteArray) (w : World) : (eqGuard op t x y (.string a) (.string b)).run P w = .ok () w := by
  unfold eqGuard
  cases op <;> simp

theorem run_binV {op : BinOp} {t : TypeId} {x y : Operand} {u v r : Value} (h : binV op u v = some r) (w : World) :
    (do eqGuard op t x y u v; binOp op t u v : Sem Value).run P w = .ok r w := by
  unfold binV at h
  split at h
  all_goals first
    | (simp only [Option.ite_none_right_eq_some, Option.some.injEq] at h
       try simp only [ne_eq] at h
       first
         | (obtain ⟨⟨rfl, hb⟩, rfl⟩ := h; simp [eqGuard_int, binOp, Op.intDiv, hb]; done)
         | (obtain ⟨rfl, rfl⟩ := h; simp [eqGuard_int, binOp, Op.intArith, Op.intBits, Op.intCmp, BEq.beq, bne, GT.gt, GE.ge]; done)
         | (obtain ⟨hb, rfl⟩ := h; simp [eqGuard_string, binOp, Op.stringOp]; omega))
    | (simp only [Option.some.injEq] at h; subst h; rw [Sem.run_bind, eqGuard_string, Result.andThen_ok]; first | (simp [binOp, Op.stringOp, Bool.beq_eq_decide_eq]; done) | (simp [binOp, Op.stringOp, bne, Bool.beq_eq_decide_eq]; done))
    | cases h

theorem ok_binOp {op : BinOp} {t yt : TypeId} {x y : Operand} {u v r : Value} (hx : ev gid F x = .val u) (hy : ev gid F y = .val v) (h : binV op u v = some r) :
    OpOK P gid ⟨d, .binOp op t x y yt, ty, pos, aft, gd⟩ F [] [] [] n n (.val r) :=
  OpOK.pure fun E ρ H w a h1 h3 _ => by
    have h4 := h3 x (by simp [Op.operands])
    have h5 := h3 y (by simp [Op.operands])
    rw [hx] at h4; rw [hy] at h5
    simp only [Vr] at h4 h5
    refine ⟨r, ?_, by simp only [Vr]⟩
    have := run_binV (P := P) (t := t) (x := x) (y := y) h w
    simp only [execOp, h4, h5]
    simp only [Sem.run_bind] at this ⊢
    rw [this]; rfl

def unV : UnOp → Value → Option Value
  | .not, .bool b => some (.bool (!b))
  | .neg, .int k a => some (.int k (k.wrap (0 - a)))
  | _, _ => none
theorem ok_unOp {op : UnOp} {t : TypeId} {x : Operand} {u r : Value} (hx : ev gid F x = .val u) (h : unV op u = some r) :
    OpOK P gid ⟨d, .unOp op t x, ty, pos, aft, gd⟩ F [] [] [] n n (.val r) :=
  OpOK.pure fun E ρ H w a h1 h3 _ => by
    have h4 := h3 x (by simp [Op.operands])
    rw [hx] at h4
    simp only [Vr] at h4
    refine ⟨r, ?_, by simp only [Vr]⟩
    unfold unV at h
    split at h
    · cases h; simp [execOp, h4, Op.unary]
    · cases h; simp [execOp, h4, Op.unary, Op.intArith]
    · cases h
theorem ok_convInt {src dst : TypeId} {sd : TypeDesc} {x : Operand} {k k' : IntKind} {z : Int} (hs : P.underlying src = some sd) (hd : P.underlying dst = some (.int k)) (hx : ev gid F x = .val (.int k' z)) :
    OpOK P gid ⟨d, .convert src dst x, ty, pos, aft, gd⟩ F [] [] [] n n (.val (.int k (k.wrap z))) :=
  OpOK.pure fun E ρ H w a h1 h3 _ => by
    have h4 := h3 x (by simp [Op.operands])
    rw [hx] at h4
    simp only [Vr] at h4
    refine ⟨_, ?_, by simp only [Vr]; rfl⟩
    simp [execOp, h4, convert, run_underlying hs, run_underlying hd, Conv.intToInt]

/-! Addresses -/
theorem addr_add_add (a : Addr) (i j : Nat) : (a.add i).add j = a.add (i + j) := by
  unfold Addr.add
  by_cases hi : i = 0
  · subst hi; simp
  · by_cases hj : j = 0
    · subst hj; simp [hi]
    · simp [hi, hj, Nat.add_assoc]
theorem ok_fieldAddr {s : TypeId} {fs : Array Field} {f : Nat} {fd : Field} {x : Operand} {b o : Nat} (hs : P.underlying s = some (.struct fs)) (hf : fs[f]? = some fd) {i : TypeInfo} (hi : P.info? fd.type = some i) (hsz : i.size ≠ 0)
    (hx : ev gid F x = .ptr b o) : OpOK P gid ⟨d, .fieldAddr s x f, ty, pos, aft, gd⟩ F [] [] [] n n (.ptr b (o + fd.offset)) :=
  OpOK.pure fun E ρ H w a h1 h3 _ => by
    have h4 := h3 x (by simp [Op.operands])
    rw [hx] at h4
    simp only [Vr] at h4 ⊢
    obtain ⟨l, ad, hl, ha, he⟩ := h4
    refine ⟨.pointer (some ((ad.add o).add fd.offset)), ?_, l, ad, hl, ha, by rw [addr_add_add]⟩
    simp [execOp, he, Instr.fieldAt, run_underlying hs, hf, Instr.sureAddr, fieldPlace, sizeOf, typeInfo, hi, hsz]

theorem ok_indexAddr {t e : TypeId} {x i : Operand} {b o len : Nat} {k : IntKind} {z : Int} {ti : TypeInfo} (ht : P.underlying t = some (.slice e)) (hi : P.info? e = some ti)
    (hx : ev gid F x = .sl b o len) (hz : ev gid F i = .val (.int k z)) (h0 : 0 ≤ z) (h1 : z < len) :
    OpOK P gid ⟨d, .indexAddr t x i, ty, pos, aft, gd⟩ F [] [] [] n n (.ptr b (o + z.toNat * ti.size)) :=
  OpOK.pure fun E ρ H w a hw h3 _ => by
    have h4 := h3 x (by simp [Op.operands])
    have h5 := h3 i (by simp [Op.operands])
    rw [hx] at h4
    rw [hz] at h5
    simp only [Vr] at h4 h5 ⊢
    obtain ⟨l, A, c, hl, he, hc, hA0, hA⟩ := h4
    obtain ⟨ad, ha, rfl⟩ := hA (by omega)
    refine ⟨.pointer (some ((ad.add o).add (z.toNat * ti.size))), ?_, l, ad, hl, ha, by rw [addr_add_add]⟩
    have hand : 0 ≤ z ∧ z < (len : Int) := ⟨h0, h1⟩
    simp [execOp, he, h5, Instr.indexAt, asIntOf, run_underlying ht, sizeOf, typeInfo, hi, hand]

theorem ok_indexAddrArr {t e : TypeId} {len : Nat} {x i : Operand} {b o : Nat} {k : IntKind} {z : Int} {ti : TypeInfo} (ht : P.underlying t = some (.array len e)) (hi : P.info? e = some ti)
    (hx : ev gid F x = .ptr b o) (hz : ev gid F i = .val (.int k z)) (h0 : 0 ≤ z) (h1 : z < len) :
    OpOK P gid ⟨d, .indexAddr t x i, ty, pos, aft, gd⟩ F [] [] [] n n (.ptr b (o + z.toNat * ti.size)) :=
  OpOK.pure fun E ρ H w a hw h3 _ => by
    have h4 := h3 x (by simp [Op.operands])
    have h5 := h3 i (by simp [Op.operands])
    rw [hx] at h4
    rw [hz] at h5
    simp only [Vr] at h4 h5 ⊢
    obtain ⟨l, ad, hl, ha, he⟩ := h4
    refine ⟨.pointer (some ((ad.add o).add (z.toNat * ti.size))), ?_, l, ad, hl, ha, by rw [addr_add_add]⟩
    have hand : 0 ≤ z ∧ z < (len : Int) := ⟨h0, h1⟩
    simp [execOp, he, h5, Instr.indexAt, asIntOf, run_underlying ht, sizeOf, typeInfo, hi, hand, Instr.sureAddr]

theorem ok_lenSlice {t e : TypeId} {x : Operand} {b o len : Nat} (ht : P.underlying t = some (.slice e)) (hx : ev gid F x = .sl b o len) :
    OpOK P gid ⟨d, .call { callee := .builtin .len, args := #[x], argTypes := #[t] }, ty, pos, aft, gd⟩ F [] [] [] n n (.val (.int .i64 len)) :=
  OpOK.pure fun E ρ H w a hw h3 _ => by
    have h4 := h3 x (by simp [Op.operands, Call.operands])
    rw [hx] at h4
    simp only [Vr] at h4 ⊢
    obtain ⟨l, A, c, hl, he, _⟩ := h4
    refine ⟨_, ?_, rfl⟩
    simp [execOp, resolve, invoke, builtin, he, Builtin.len_, run_underlying ht, goInt]
theorem ok_lenNil {t e : TypeId} {x : Operand} {len c : Nat} {A : Option Addr} (ht : P.underlying t = some (.slice e)) (hx : ev gid F x = .val (.slice A len c)) :
    OpOK P gid ⟨d, .call { callee := .builtin .len, args := #[x], argTypes := #[t] }, ty, pos, aft, gd⟩ F [] [] [] n n (.val (.int .i64 len)) :=
  OpOK.pure fun E ρ H w a hw h3 _ => by
    have h4 := h3 x (by simp [Op.operands, Call.operands])
    rw [hx] at h4
    simp only [Vr] at h4 ⊢
    refine ⟨_, ?_, rfl⟩
    simp [execOp, resolve, invoke, builtin, h4, Builtin.len_, run_underlying ht, goInt]
theorem ok_lenString {t : TypeId} {x : Operand} {s : ByteArray} (ht : P.underlying t = some .string) (hx : ev gid F x = .val (.string s)) :
    OpOK P gid ⟨d, .call { callee := .builtin .len, args := #[x], argTypes := #[t] }, ty, pos, aft, gd⟩ F [] [] [] n n (.val (.int .i64 s.size)) :=
  OpOK.pure fun E ρ H w a hw h3 _ => by
    have h4 := h3 x (by simp [Op.operands, Call.operands])
    rw [hx] at h4
    simp only [Vr] at h4 ⊢
    refine ⟨_, ?_, rfl⟩
    simp [execOp, resolve, invoke, builtin, h4, Builtin.len_, run_underlying ht, goInt]
theorem ok_min {t t' : TypeId} {x y : Operand} {k : IntKind} {u v : Int} (hx : ev gid F x = .val (.int k u)) (hy : ev gid F y = .val (.int k v)) :
    OpOK P gid ⟨d, .call { callee := .builtin .min, args := #[x, y], argTypes := #[t, t'] }, ty, pos, aft, gd⟩ F [] [] [] n n (.val (.int k (if v < u then v else u))) :=
  OpOK.pure fun E ρ H w a hw h3 _ => by
    have h4 := h3 x (by simp [Op.operands, Call.operands])
    have h5 := h3 y (by simp [Op.operands, Call.operands])
    rw [hx] at h4; rw [hy] at h5
    simp only [Vr] at h4 h5 ⊢
    refine ⟨_, ?_, rfl⟩
    simp [execOp, resolve, invoke, builtin, h4, h5, Builtin.min_, Builtin.min2]
theorem ok_max {t t' : TypeId} {x y : Operand} {k : IntKind} {u v : Int} (hx : ev gid F x = .val (.int k u)) (hy : ev gid F y = .val (.int k v)) :
    OpOK P gid ⟨d, .call { callee := .builtin .max, args := #[x, y], argTypes := #[t, t'] }, ty, pos, aft, gd⟩ F [] [] [] n n (.val (.int k (if v > u then v else u))) :=
  OpOK.pure fun E ρ H w a hw h3 _ => by
    have h4 := h3 x (by simp [Op.operands, Call.operands])
    have h5 := h3 y (by simp [Op.operands, Call.operands])
    rw [hx] at h4; rw [hy] at h5
    simp only [Vr] at h4 h5 ⊢
    refine ⟨_, ?_, rfl⟩
    simp [execOp, resolve, invoke, builtin, h4, h5, Builtin.max_, Builtin.max2]
end
end
end Go.Abs
