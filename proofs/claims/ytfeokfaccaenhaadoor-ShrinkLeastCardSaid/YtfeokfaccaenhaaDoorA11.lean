/- The abstract logic, part 11: interfaces, maps with integer keys, truth values and functions compared, copies. -/
import Derived.Test.YtfeokfaccaenhaaDoorA10
import Derived.Laws.CopyRow
set_option linter.unusedVariables false
set_option linter.unusedSimpArgs false
namespace Go.Abs
open Go.Lib

mutual
/-- A value that is told exactly. -/
def toVal : V → Option Value
  | .val x => some x
  | .agg cs => match toVals cs with
    | some l => some (.agg l.toArray)
    | none => none
  | .fn f cs => match cs with
    | [] => some (.func (.func f) #[] #[])
    | _ :: _ => none
  | _ => none
def toVals : List V → Option (List Value)
  | [] => some []
  | c :: cs => match toVal c with
    | some x => match toVals cs with
      | some l => some (x :: l)
      | none => none
    | none => none
end
mutual
theorem toVal_ok {ρ : Env} : ∀ {v : V} {x y : Value}, toVal v = some x → Vr ρ v y → y = x
  | .val z, x, y, h, hv => by simp only [toVal, Option.some.injEq] at h; simp only [Vr] at hv; rw [hv, h]
  | .agg cs, x, y, h, hv => by
    simp only [toVal] at h
    split at h
    · rename_i l hl
      cases h
      simp only [Vr] at hv
      obtain ⟨vs, rfl, h2⟩ := hv
      rw [toVals_ok hl h2]
    · cases h
  | .fn f cs, x, y, h, hv => by
    simp only [toVal] at h
    split at h
    · cases h
      simp only [Vr] at hv
      obtain ⟨vs, rfl, h2⟩ := hv
      cases vs with
      | nil => rfl
      | cons v vs => simp only [VrL] at h2
    · cases h
  | .ptr b o, x, y, h, hv => by simp [toVal] at h
  | .sl b o l, x, y, h, hv => by simp [toVal] at h
  | .mp b, x, y, h, hv => by simp [toVal] at h
  | .tup cs, x, y, h, hv => by simp [toVal] at h
  | .any, x, y, h, hv => by simp [toVal] at h
theorem toVals_ok {ρ : Env} : ∀ {cs : List V} {l ys : List Value}, toVals cs = some l → VrL ρ cs ys → ys = l
  | [], l, ys, h, hv => by
    simp only [toVals, Option.some.injEq] at h
    cases ys with
    | nil => exact h
    | cons y ys => simp only [VrL] at hv
  | c :: cs, l, ys, h, hv => by
    simp only [toVals] at h
    split at h
    · rename_i x hx
      split at h
      · rename_i m hm
        cases h
        cases ys with
        | nil => simp only [VrL] at hv
        | cons y ys =>
          simp only [VrL] at hv
          rw [toVal_ok hx hv.1, toVals_ok hm hv.2]
      · cases h
    · cases h
end

def isIface : TypeDesc → Bool
  | .interface _ => true
  | _ => false

section
variable {P : Program} {gid : Nat → Option Nat} {F : FF} {n : Nat} {d : Option Tmp} {ty : TypeId} {pos : String} {aft : Array Edge} {gd : Option (Nat × Bool)}

theorem ok_iface {t : TypeId} {td : TypeDesc} (ht : P.underlying t = some td) (hi : isIface td = false) {x : Operand} {u : Value} (hx : toVal (ev gid F x) = some u) :
    OpOK P gid ⟨d, .makeInterface t x, ty, pos, aft, gd⟩ F [] [] [] n n (.val (.iface t u)) :=
  OpOK.pure fun E ρ H w a h1 h3 _ => by
    have h4 := toVal_ok hx (h3 x (by simp [Op.operands]))
    refine ⟨.iface t u, ?_, by simp only [Vr]⟩
    cases td <;> simp [isIface] at hi <;> simp [execOp, h4, Instr.makeInterface, run_underlying ht]

theorem run_zero {t : TypeId} {i : TypeInfo} {z : Value} (hi : P.info? t = some i) (hz : i.zero = some z) (w : World) : (zeroValue t).run P w = .ok z w := by
  simp [zeroValue, typeInfo, hi, hz]

theorem ok_assert_yes {t xt : TypeId} {td : TypeDesc} (ht : P.underlying t = some td) (hi : isIface td = false) {x : Operand} {u : Value} {ok : Bool} (hx : ev gid F x = .val (.iface t u)) :
    OpOK P gid ⟨d, .typeAssert x xt t ok, ty, pos, aft, gd⟩ F [] [] [] n n (if ok then .tup [.val u, .val (.bool true)] else .val u) :=
  OpOK.pure fun E ρ H w a h1 h3 _ => by
    have h4 := h3 x (by simp [Op.operands])
    rw [hx] at h4
    simp only [Vr] at h4
    cases ok
    · refine ⟨u, ?_, by simp [Vr]⟩
      cases td <;> simp [isIface] at hi <;> simp [execOp, h4, Instr.typeAssert, run_underlying ht]
    · refine ⟨.tuple #[u, .bool true], ?_, by simp only [if_true, Vr]; exact ⟨[u, .bool true], rfl, by simp [VrL, Vr]⟩⟩
      cases td <;> simp [isIface] at hi <;> simp [execOp, h4, Instr.typeAssert, run_underlying ht]

theorem ok_assert_no {t xt t' : TypeId} {td : TypeDesc} {i : TypeInfo} {z : Value} (ht : P.underlying t = some td) (hi : isIface td = false) (hin : P.info? t = some i) (hz : i.zero = some z) (hne : t' ≠ t) {x : Operand} {u : Value} (hx : ev gid F x = .val (.iface t' u)) :
    OpOK P gid ⟨d, .typeAssert x xt t true, ty, pos, aft, gd⟩ F [] [] [] n n (.tup [.val z, .val (.bool false)]) :=
  OpOK.pure fun E ρ H w a h1 h3 _ => by
    have h4 := h3 x (by simp [Op.operands])
    rw [hx] at h4
    simp only [Vr] at h4
    refine ⟨.tuple #[z, .bool false], ?_, by simp only [Vr]; exact ⟨[z, .bool false], rfl, by simp [VrL, Vr]⟩⟩
    have hr := run_zero hin hz w
    cases td <;> simp [isIface] at hi <;> simp [execOp, h4, Instr.typeAssert, run_underlying ht, hne, hr]

theorem ok_eqBool {t yt : TypeId} (ht : P.underlying t = some .bool) {neg : Bool} {x y : Operand} {a b : Bool} (hx : ev gid F x = .val (.bool a)) (hy : ev gid F y = .val (.bool b)) :
    OpOK P gid ⟨d, .binOp (if neg then .neq else .eql) t x y yt, ty, pos, aft, gd⟩ F [] [] [] n n (.val (.bool (if neg then !(a == b) else (a == b)))) :=
  OpOK.pure fun E ρ H w ac h1 h3 _ => by
    have h4 := h3 x (by simp [Op.operands])
    have h5 := h3 y (by simp [Op.operands])
    rw [hx] at h4; rw [hy] at h5
    simp only [Vr] at h4 h5
    refine ⟨_, ?_, by simp only [Vr]; rfl⟩
    have hk : ∀ k, (Op.equalIn (k + 1) t (.bool a) (.bool b)).run P w = .ok (a == b) w := fun k => by simp [Op.equalIn, run_underlying ht]
    have hr : (Op.equal t (.bool a) (.bool b)).run P w = .ok (a == b) w := hk 9999
    cases neg <;> simp [execOp, h4, h5, eqGuard, binOp, hr]

def isNilF : Value → Option Bool
  | .nilFunc => some true
  | .func _ _ _ => some false
  | _ => none
def isFuncT : TypeDesc → Bool
  | .func _ _ _ => true
  | _ => false
theorem ok_eqFnil {t yt : TypeId} {td : TypeDesc} (ht : P.underlying t = some td) (hf : isFuncT td = true) {neg : Bool} {x y : Operand} {u : Value} {b : Bool} (hx : ev gid F x = .val u) (hu : isNilF u = some b) (hy : ev gid F y = .val .nilFunc) :
    OpOK P gid ⟨d, .binOp (if neg then .neq else .eql) t x y yt, ty, pos, aft, gd⟩ F [] [] [] n n (.val (.bool (if neg then !b else b))) :=
  OpOK.pure fun E ρ H w ac h1 h3 _ => by
    have h4 := h3 x (by simp [Op.operands])
    have h5 := h3 y (by simp [Op.operands])
    rw [hx] at h4; rw [hy] at h5
    simp only [Vr] at h4 h5
    refine ⟨_, ?_, by simp only [Vr]; rfl⟩
    have hk : ∀ k, (Op.equalIn (k + 1) t u .nilFunc).run P w = .ok b w := fun k => by
      cases td <;> simp [isFuncT] at hf
      cases u <;> simp [isNilF] at hu <;> subst hu <;> simp [Op.equalIn, run_underlying ht]
    have hr : (Op.equal t u .nilFunc).run P w = .ok b w := hk 9999
    cases u <;> simp [isNilF] at hu <;> cases neg <;> simp [execOp, h4, h5, eqGuard, binOp, hr]

/-! ### Maps with integer keys -/
theorem ok_makeMap {t : TypeId} : OpOK P gid ⟨d, .makeMap t none, ty, pos, aft, gd⟩ F [] [] [(n, .mp [])] n (n + 1) (.mp n) :=
  OpOK.mk (Nat.le_succ _) fun E ρ H w a h1 hk h3 _ _ hn => by
    have hn0 := hn n (Nat.le_refl _) (Nat.lt_succ_self _)
    refine ⟨.map (some w.heap.size), w.alloc (.map #[] 0), eput ρ n ⟨some ⟨w.heap.size, 0, none⟩, some 1⟩, .value _, ?_, .inl rfl, eput_grow hn0 _, ?_, ?_⟩
    · simp [execOp, Instr.makeMap, newObj, Sem.run]
    · refine h1.new hk hn0 (by intro g hg; simp at hg; omega) (only_alloc _ _ _) ?_ rfl
      exact ⟨_, w.heap.size, #[], 0, eput_self _ _ _, rfl, heap_alloc_new' _ _, rfl⟩
    · simp only [Vr]; exact ⟨_, _, eput_self _ _ _, rfl, rfl⟩

/-- What stands at a number: not told; nothing; a value. -/
def mget (kd : IntKind) (z : Int) : List (Value × Value) → Option (Option Value)
  | [] => some none
  | (k, v) :: r => match k with
    | .int k' a => if k' = kd then (if z = a then some (some v) else mget kd z r) else none
    | _ => none
/-- A number's value told anew. -/
def mput (kd : IntKind) (z : Int) (u : Value) : List (Value × Value) → Option (List (Value × Value))
  | [] => some [(.int kd z, u)]
  | (k, v) :: r => match k with
    | .int k' a => if k' = kd then (if z = a then some ((.int kd z, u) :: r) else match mput kd z u r with
      | some m => some ((k, v) :: m)
      | none => none) else none
    | _ => none
def kv (e : MapEntry) : Value × Value := (e.key, e.val)
theorem mget_spec {kt : IntKind} {kd : IntKind} {z : Int} : ∀ {l : List MapEntry} {i : Nat} {r : Option Value}, mget kd z (l.map kv) = some r →
    ∃ q, Instr.findNow (.int kt) (.int kd z) l i = some q ∧ q.map (·.2) = r
  | [], i, r, h => by simp [mget] at h; subst h; exact ⟨none, rfl, rfl⟩
  | e :: l, i, r, h => by
    obtain ⟨k, v, b⟩ := e
    simp only [List.map_cons, kv, mget] at h
    split at h
    · rename_i k' a
      split at h
      · rename_i hk
        subst hk
        split at h
        · rename_i hz
          cases h
          exact ⟨some (i, v), by simp [Instr.findNow, Instr.sameNow, hz], rfl⟩
        · rename_i hz
          obtain ⟨q, h1, h2⟩ := mget_spec (kt := kt) (i := i + 1) h
          have hz' : (z == a) = false := by simpa using hz
          exact ⟨q, by simp [Instr.findNow, Instr.sameNow, hz', h1], h2⟩
      · cases h
    · cases h
theorem mput_spec {kt : IntKind} {kd : IntKind} {z : Int} {u : Value} : ∀ {l : List MapEntry} {i : Nat} {m : List (Value × Value)}, mput kd z u (l.map kv) = some m →
    (Instr.findNow (.int kt) (.int kd z) l i = some none ∧ m = l.map kv ++ [(.int kd z, u)]) ∨
    ∃ j e, Instr.findNow (.int kt) (.int kd z) l i = some (some (i + j, e.val)) ∧ l[j]? = some e ∧ e.key = .int kd z ∧ m = (l.map kv).set j (.int kd z, u)
  | [], i, m, h => by simp [mput] at h; subst h; exact .inl ⟨rfl, rfl⟩
  | e :: l, i, m, h => by
    obtain ⟨k, v, b⟩ := e
    simp only [List.map_cons, kv, mput] at h
    split at h
    · rename_i k' a
      split at h
      · rename_i hk
        subst hk
        split at h
        · rename_i hz
          cases h
          subst hz
          exact .inr ⟨0, _, by simp [Instr.findNow, Instr.sameNow], rfl, rfl, rfl⟩
        · rename_i hz
          split at h
          · rename_i m' hm
            cases h
            have hz' : (z == a) = false := by simpa using hz
            rcases mput_spec (kt := kt) (i := i + 1) hm with ⟨h1, rfl⟩ | ⟨j, e, h1, h2, h3, rfl⟩
            · exact .inl ⟨by simp [Instr.findNow, Instr.sameNow, hz', h1], rfl⟩
            · exact .inr ⟨j + 1, e, by simp [Instr.findNow, Instr.sameNow, hz', h1]; omega, h2, h3, rfl⟩
          · cases h
      · cases h
    · cases h

theorem run_checkKey {t : TypeId} {k : IntKind} (ht : P.underlying t = some (.int k)) (b : Bool) (z : Value) (w : World) : (Instr.checkKey b 10000 t z).run P w = .ok () w := by
  have hk : ∀ m, (Instr.checkKey b (m + 1) t z).run P w = .ok () w := fun m => by
    unfold Instr.checkKey
    simp only [Sem.run_bind, run_underlying ht, Result.andThen_ok]
    cases z <;> rfl
  exact hk 9999

theorem ok_lookup {mt kt et : TypeId} {kk kd : IntKind} {i : TypeInfo} {zv : Value} (hm : P.underlying mt = some (.map kt et)) (hk : P.underlying kt = some (.int kk)) (hi : P.info? et = some i) (hz : i.zero = some zv) {x y : Operand} {ok : Bool} {b : Nat} {z : Int} {es : List (Value × Value)} {r : Option Value}
    (hx : ev gid F x = .mp b) (hy : ev gid F y = .val (.int kd z)) (hg : mget kd z es = some r) :
    OpOK P gid ⟨d, .lookup mt x y ok, ty, pos, aft, gd⟩ F [(b, .mp es)] [] [] n n (if ok then .tup [.val (r.getD zv), .val (.bool r.isSome)] else .val (r.getD zv)) :=
  OpOK.pure fun E ρ H w a h1 h3 h4 => by
    have h5 := h3 x (by simp [Op.operands])
    have h6 := h3 y (by simp [Op.operands])
    rw [hx] at h5; rw [hy] at h6
    simp only [Vr] at h5 h6
    obtain ⟨lc, ad, hl, ha, he⟩ := h5
    obtain ⟨lc', g, arr, clock, hl', hg', hh, hes⟩ := h1.own.ok b _ (h4 b _ (lk_self _ _))
    rw [hl] at hl'; cases hl'
    rw [ha] at hg'; cases hg'
    obtain ⟨q, hq, hqr⟩ := mget_spec (kt := kk) (i := 0) (l := arr.toList) (by rw [show arr.toList.map kv = es from hes]; exact hg)
    have hfk : (Instr.findKey kt (.int kd z) arr.toList).run P w = .ok q w := by
      simp [Instr.findKey, run_underlying hk, hq]
    have hck := run_checkKey (P := P) hk arr.isEmpty (.int kd z) w
    have hzr := run_zero (P := P) hi hz w
    have hrun : (Instr.lookup mt (.map (some g)) (.int kd z) ok).run P w = .ok (if ok then .tuple #[r.getD zv, .bool r.isSome] else r.getD zv) w := by
      have hgo : (getObj g).run P w = .ok (.map arr clock) w := by simp [getObj, Sem.run, hh]
      cases q with
      | none =>
        simp only [Option.map_none] at hqr
        subst hqr
        simp [Instr.lookup, run_underlying hm, hgo, hck, hfk, hzr]
      | some p =>
        obtain ⟨j, v⟩ := p
        simp only [Option.map_some] at hqr
        subst hqr
        simp [Instr.lookup, run_underlying hm, hgo, hck, hfk]
    cases ok
    · exact ⟨r.getD zv, by simp [execOp, he, h6, hrun], by simp [Vr]⟩
    · exact ⟨.tuple #[r.getD zv, .bool r.isSome], by simp [execOp, he, h6, hrun], by simp only [if_true, Vr]; exact ⟨[r.getD zv, .bool r.isSome], rfl, by simp [VrL, Vr]⟩⟩

theorem modify_kv {l : List MapEntry} {j : Nat} {k u : Value} : (l.modify j fun e => { e with key := k, val := u }).map kv = (l.map kv).set j (k, u) := by
  apply List.ext_getElem?
  intro i
  rw [List.getElem?_map, List.getElem?_modify, List.getElem?_set, List.getElem?_map]
  by_cases h : j = i
  · subst h
    cases hl : l[j]? with
    | none => simp [hl]; exact List.getElem?_eq_none_iff.1 hl
    | some e => have := (List.getElem?_eq_some_iff.1 hl).1; simp [kv, this]
  · simp [h]

theorem ok_mapUpdate {mt kt et : TypeId} {kk kd : IntKind} (hm : P.underlying mt = some (.map kt et)) (hk : P.underlying kt = some (.int kk)) {x y v : Operand} {b : Nat} {z : Int} {u : Value} {es es' : List (Value × Value)}
    (hx : ev gid F x = .mp b) (hy : ev gid F y = .val (.int kd z)) (hv : toVal (ev gid F v) = some u) (hp : mput kd z u es = some es') :
    OpOK P gid ⟨d, .mapUpdate mt x y v, ty, pos, aft, gd⟩ F [] [(b, .mp es)] [(b, .mp es')] n n .any :=
  OpOK.mk (Nat.le_refl _) fun E ρ H w a h1 hkn h3 _ h4 hn => by
    have h5 := h3 x (by simp [Op.operands])
    have h6 := h3 y (by simp [Op.operands])
    have h7 := toVal_ok hv (h3 v (by simp [Op.operands]))
    rw [hx] at h5; rw [hy] at h6
    simp only [Vr] at h5 h6
    obtain ⟨lc, ad, hl, ha, he⟩ := h5
    have hHb := h4 b _ (lk_self _ _)
    obtain ⟨lc', g, arr, clock, hl', hg', hh, hes⟩ := h1.own.ok b _ hHb
    rw [hl] at hl'; cases hl'
    rw [ha] at hg'; cases hg'
    have hlt : g < w.heap.size := (Array.getElem?_eq_some_iff.1 hh).1
    have hck := run_checkKey (P := P) hk false (.int kd z) w
    have hgo : (getObj g).run P w = .ok (.map arr clock) w := by simp [getObj, Sem.run, hh]
    have fin : ∀ (arr' : Array MapEntry) (clock' : Nat), arr'.toList.map kv = es' → (Instr.mapUpdate mt (.map (some g)) (.int kd z) u).run P w = .ok () { w with heap := w.heap.setIfInBounds g (.map arr' clock') } →
        ∃ x' w' ρ' r, (execOp a.eval ⟨d, .mapUpdate mt x y v, ty, pos, aft, gd⟩).run P w = .ok r w' ∧ (r = .value x' ∨ r = .skip ∧ x' = undef) ∧ Grow n n ρ ρ' ∧ WSt P gid E ρ' (upd H [(b, .mp es)] [(b, .mp es')]) w' ∧ Vr ρ' .any x' := by
      intro arr' clock' harr hrun
      refine ⟨undef, { w with heap := w.heap.setIfInBounds g (.map arr' clock') }, ρ, .skip, ?_, .inr ⟨rfl, rfl⟩, ⟨Ext.refl _, fun i hi hi' => absurd hi hi'⟩, ?_, by simp [Vr]⟩
      · simp [execOp, he, h6, h7, hrun]
      · refine h1.same1 hHb rfl ⟨rfl, rfl, rfl, by simp, fun g' hg' hn' => ?_⟩ ⟨lc, g, arr', clock', hl, ha, by simp [hlt], harr⟩ rfl
        have : g ≠ g' := fun e => hn' ⟨b, _, lk_self _ _, rfl, by simp [at?, hl, ha, e]⟩
        simp [Array.getElem?_setIfInBounds_ne this]
    rcases mput_spec (kt := kk) (i := 0) (l := arr.toList) (by rw [show arr.toList.map kv = es from hes]; exact hp) with ⟨hq, hm'⟩ | ⟨j, e, hq, hj, hek, hm'⟩
    · have hfk : (Instr.findKey kt (.int kd z) arr.toList).run P w = .ok none w := by simp [Instr.findKey, run_underlying hk, hq]
      refine fin (arr.push { key := .int kd z, val := u, born := clock }) (clock + 1) (by rw [hm']; simp [kv]) ?_
      simp [Instr.mapUpdate, run_underlying hm, hgo, hck, hfk, setObj, Sem.run, hh]
    · have hfk : (Instr.findKey kt (.int kd z) arr.toList).run P w = .ok (some (j, e.val)) w := by simp [Instr.findKey, run_underlying hk, hq]
      have hj' : arr[j]? = some e := by rw [← Array.getElem?_toList]; exact hj
      have hst : (Instr.keyThatStays (.int kd z) (.int kd z)).run P w = .ok (.int kd z) w := by
        have : Instr.sameBits 10000 (.int kd z) (.int kd z) = true := by
          have hk : ∀ m, Instr.sameBits (m + 1) (.int kd z) (.int kd z) = true := fun m => by simp [Instr.sameBits]
          exact hk 9999
        simp [Instr.keyThatStays, this]
      refine fin (arr.modify j fun e => { e with key := .int kd z, val := u }) clock (by rw [Array.toList_modify, modify_kv, hm']) ?_
      simp [Instr.mapUpdate, run_underlying hm, hgo, hck, hfk, hj', hek, hst, setObj, Sem.run, hh]

theorem ok_mapInsert {mt kt et : TypeId} {kk kd : IntKind} (hm : P.underlying mt = some (.map kt et)) (hk : P.underlying kt = some (.int kk)) {x y v : Operand} {b : Nat} {z : Int} {u : Value} {es es' : List (Value × Value)}
    (hx : ev gid F x = .mp b) (hy : ev gid F y = .val (.int kd z)) (hv : toVal (ev gid F v) = some u) (hp : mput kd z u es = some es') :
    OpOK P gid ⟨d, .insert mt x y v, ty, pos, aft, gd⟩ F [] [(b, .mp es)] [(b, .mp es')] n n .any :=
  OpOK.mk (Nat.le_refl _) fun E ρ H w a h1 hkn h3 _ h4 hn => by
    have h5 := h3 x (by simp [Op.operands])
    have h6 := h3 y (by simp [Op.operands])
    have h7 := toVal_ok hv (h3 v (by simp [Op.operands]))
    rw [hx] at h5; rw [hy] at h6
    simp only [Vr] at h5 h6
    obtain ⟨lc, ad, hl, ha, he⟩ := h5
    have hHb := h4 b _ (lk_self _ _)
    obtain ⟨lc', g, arr, clock, hl', hg', hh, hes⟩ := h1.own.ok b _ hHb
    rw [hl] at hl'; cases hl'
    rw [ha] at hg'; cases hg'
    have hlt : g < w.heap.size := (Array.getElem?_eq_some_iff.1 hh).1
    have hck := run_checkKey (P := P) hk false (.int kd z) w
    have hgo : (getObj g).run P w = .ok (.map arr clock) w := by simp [getObj, Sem.run, hh]
    have fin : ∀ (arr' : Array MapEntry) (clock' : Nat), arr'.toList.map kv = es' → (Instr.mapUpdate mt (.map (some g)) (.int kd z) u).run P w = .ok () { w with heap := w.heap.setIfInBounds g (.map arr' clock') } →
        ∃ x' w' ρ' r, (execOp a.eval ⟨d, .insert mt x y v, ty, pos, aft, gd⟩).run P w = .ok r w' ∧ (r = .value x' ∨ r = .skip ∧ x' = undef) ∧ Grow n n ρ ρ' ∧ WSt P gid E ρ' (upd H [(b, .mp es)] [(b, .mp es')]) w' ∧ Vr ρ' .any x' := by
      intro arr' clock' harr hrun
      refine ⟨undef, { w with heap := w.heap.setIfInBounds g (.map arr' clock') }, ρ, .skip, ?_, .inr ⟨rfl, rfl⟩, ⟨Ext.refl _, fun i hi hi' => absurd hi hi'⟩, ?_, by simp [Vr]⟩
      · simp [execOp, he, h6, h7, hrun]
      · refine h1.same1 hHb rfl ⟨rfl, rfl, rfl, by simp, fun g' hg' hn' => ?_⟩ ⟨lc, g, arr', clock', hl, ha, by simp [hlt], harr⟩ rfl
        have : g ≠ g' := fun e => hn' ⟨b, _, lk_self _ _, rfl, by simp [at?, hl, ha, e]⟩
        simp [Array.getElem?_setIfInBounds_ne this]
    rcases mput_spec (kt := kk) (i := 0) (l := arr.toList) (by rw [show arr.toList.map kv = es from hes]; exact hp) with ⟨hq, hm'⟩ | ⟨j, e, hq, hj, hek, hm'⟩
    · have hfk : (Instr.findKey kt (.int kd z) arr.toList).run P w = .ok none w := by simp [Instr.findKey, run_underlying hk, hq]
      refine fin (arr.push { key := .int kd z, val := u, born := clock }) (clock + 1) (by rw [hm']; simp [kv]) ?_
      simp [Instr.mapUpdate, run_underlying hm, hgo, hck, hfk, setObj, Sem.run, hh]
    · have hfk : (Instr.findKey kt (.int kd z) arr.toList).run P w = .ok (some (j, e.val)) w := by simp [Instr.findKey, run_underlying hk, hq]
      have hj' : arr[j]? = some e := by rw [← Array.getElem?_toList]; exact hj
      have hst : (Instr.keyThatStays (.int kd z) (.int kd z)).run P w = .ok (.int kd z) w := by
        have : Instr.sameBits 10000 (.int kd z) (.int kd z) = true := by
          have hk : ∀ m, Instr.sameBits (m + 1) (.int kd z) (.int kd z) = true := fun m => by simp [Instr.sameBits]
          exact hk 9999
        simp [Instr.keyThatStays, this]
      refine fin (arr.modify j fun e => { e with key := .int kd z, val := u }) clock (by rw [Array.toList_modify, modify_kv, hm']) ?_
      simp [Instr.mapUpdate, run_underlying hm, hgo, hck, hfk, hj', hek, hst, setObj, Sem.run, hh]

/-- Nothing put behind a slice: the slice itself. -/
theorem ok_append_none {t e : TypeId} {i : TypeInfo} (ht : P.underlying t = some (.slice e)) (hi : P.info? e = some i)
    {s x : Operand} {b o len : Nat} (hs : ev gid F s = .sl b o len) (hx : ev gid F x = .val (.slice none 0 0)) :
    OpOK P gid ⟨d, .call { callee := .builtin .append, args := #[s, x], argTypes := #[t, t] }, ty, pos, aft, gd⟩ F [] [] [] n n (.sl b o len) :=
  OpOK.pure fun E ρ H w a h1 h3 _ => by
    have h4 := h3 s (by simp [Op.operands, Call.operands])
    have h5 := h3 x (by simp [Op.operands, Call.operands])
    rw [hs] at h4
    rw [hx] at h5
    have h4' := h4
    simp only [Vr] at h4 h5
    obtain ⟨l, A, c, hl, he, hlc, hA0, _⟩ := h4
    refine ⟨.slice A len c, ?_, by rw [← he]; exact h4'⟩
    simp only [execOp, resolve, invoke, builtin, Sem.run_bind, Sem.run_pure, Result.andThen_ok, List.map_toArray, List.map_cons, List.map_nil, he, h5, run_append_zero w t ty e i ht hi A none len c 0 hlc]
theorem ok_append_none2 {t e : TypeId} {i : TypeInfo} (ht : P.underlying t = some (.slice e)) (hi : P.info? e = some i)
    {s x : Operand} (hs : ev gid F s = .val (.slice none 0 0)) (hx : ev gid F x = .val (.slice none 0 0)) :
    OpOK P gid ⟨d, .call { callee := .builtin .append, args := #[s, x], argTypes := #[t, t] }, ty, pos, aft, gd⟩ F [] [] [] n n (.val (.slice none 0 0)) :=
  OpOK.pure fun E ρ H w a h1 h3 _ => by
    have h4 := h3 s (by simp [Op.operands, Call.operands])
    have h5 := h3 x (by simp [Op.operands, Call.operands])
    rw [hs] at h4
    rw [hx] at h5
    simp only [Vr] at h4 h5
    refine ⟨.slice none 0 0, ?_, by simp only [Vr]⟩
    simp only [execOp, resolve, invoke, builtin, Sem.run_bind, Sem.run_pure, Result.andThen_ok, List.map_toArray, List.map_cons, List.map_nil, h4, h5, run_append_zero w t ty e i ht hi none none 0 0 0 (Nat.le_refl _)]

theorem ok_lenMap {t kt et : TypeId} (ht : P.underlying t = some (.map kt et)) {x : Operand} {b : Nat} {es : List (Value × Value)} (hx : ev gid F x = .mp b) :
    OpOK P gid ⟨d, .call { callee := .builtin .len, args := #[x], argTypes := #[t] }, ty, pos, aft, gd⟩ F [(b, .mp es)] [] [] n n (.val (.int .i64 es.length)) :=
  OpOK.pure fun E ρ H w a h1 h3 h4 => by
    have h5 := h3 x (by simp [Op.operands, Call.operands])
    rw [hx] at h5
    simp only [Vr] at h5
    obtain ⟨lc, ad, hl, ha, he⟩ := h5
    obtain ⟨lc', g, arr, clock, hl', hg', hh, hes⟩ := h1.own.ok b _ (h4 b _ (lk_self _ _))
    rw [hl] at hl'; cases hl'
    rw [ha] at hg'; cases hg'
    have hsz : es.length = arr.size := by rw [← hes]; simp
    refine ⟨.int .i64 es.length, ?_, by simp only [Vr]⟩
    have hgo : (getObj g).run P w = .ok (.map arr clock) w := by simp [getObj, Sem.run, hh]
    simp [execOp, resolve, invoke, builtin, he, Builtin.len_, run_underlying ht, hgo, hsz, goInt]

theorem ok_copy {dT sT el : TypeId} {i : TypeInfo} (hu : P.underlying dT = some (.slice el)) (hi : P.info? el = some i) (hs1 : i.size = 1) {x y : Operand} {b len b2 o2 m : Nat} {e : TypeId} {cs : List V} {k2 : Blk}
    (hx : ev gid F x = .sl b 0 len) (hy : ev gid F y = .sl b2 o2 m) (hpos : 0 < Nat.min m len) (hcs : Nat.min m len ≤ cs.length) (hk : o2 + Nat.min m len ≤ k2.cellsV.length) (hfl : (k2.sub o2 (Nat.min m len)).all V.flat = true) :
    OpOK P gid ⟨d, .call { callee := .builtin .copy, args := #[x, y], argTypes := #[dT, sT] }, ty, pos, aft, gd⟩ F [(b2, k2)] [(b, .own e cs)] [(b, .own e (k2.sub o2 (Nat.min m len) ++ cs.drop (Nat.min m len)))] n n (.val (.int .i64 (Nat.min m len))) :=
  OpOK.mk (Nat.le_refl _) fun E ρ H w a h1 hkn h3 hrd h4 hn => by
    have h5 := h3 x (by simp [Op.operands, Call.operands])
    have h6 := h3 y (by simp [Op.operands, Call.operands])
    rw [hx] at h5; rw [hy] at h6
    simp only [Vr] at h5 h6
    obtain ⟨lc, A, c, hl, he, hle, _, hA⟩ := h5
    obtain ⟨lc2, A2, c2, hl2, he2, hle2, _, hA2⟩ := h6
    have hmm : 0 < m := Nat.lt_of_lt_of_le hpos (Nat.min_le_left _ _)
    have hll : 0 < len := Nat.lt_of_lt_of_le hpos (Nat.min_le_right _ _)
    generalize hnn : Nat.min m len = nn at *
    obtain ⟨ad, ha, rfl⟩ := hA hll
    obtain ⟨ad2, ha2, rfl⟩ := hA2 hmm
    have hHb := h4 b _ (lk_self _ _)
    obtain ⟨lc', hl', hc⟩ := h1.own.ok b _ hHb
    rw [hl] at hl'; cases hl'
    rcases hc with ⟨_, _, rfl⟩ | ⟨g, cur, hg, hh, ⟨cap, hcap, hcsz, hcm⟩, hle3, hV⟩
    · simp at hcs; omega
    rw [ha] at hg; cases hg
    obtain ⟨vs, hvs, hvl, hrow⟩ := read_row (h1.own.ok b2 k2 (hrd b2 _ (lk_self _ _))) o2 nn hk
    obtain ⟨lc3, a3, hl3, ha3, hcell⟩ := hrow hpos
    rw [hl2] at hl3; cases hl3
    rw [ha2] at ha3; cases ha3
    have hadd : (⟨g, 0, none⟩ : Addr).add 0 = ⟨g, 0, none⟩ := by simp [Addr.add]
    have hr := run_copy_row (P := P) w dT sT ty el g 0 len c (ad2.add o2) m c2 cur e vs hu (by simp [hi, hs1]) hh (hvl.trans hnn.symm) hcell (by omega) (flat_cells hfl hvs)
    rw [hadd] at he
    refine ⟨.int .i64 nn, w.setRow g (cur.toList.take 0 ++ vs ++ cur.toList.drop (0 + vs.length)).toArray, ρ, .value _, ?_, .inl rfl, ⟨Ext.refl _, fun i hi hi' => absurd hi hi'⟩, ?_, by simp only [Vr]⟩
    · simp only [execOp, resolve, he, he2]
      simp [invoke, builtin, hr, hvl, goInt, he, he2]
    · refine h1.same1 hHb rfl ((only_setRow w g _).mono fun i hi => ⟨b, _, lk_self _ _, rfl, by subst hi; simp [at?, hl, ha]⟩) ⟨lc, hl, .inr ⟨g, _, ha, setRow_heap w g cur _ e _ hh, ⟨cap, hcap, ?_, hcm⟩, ?_, ?_⟩⟩ rfl
      · simp [hvl]; omega
      · simp [hvl, Blk.sub] at hle3 ⊢; omega
      · have hsl : (k2.sub o2 nn).length = nn := by rw [hvs.length, hvl]
        have hcl : (k2.sub o2 nn ++ cs.drop nn).length = cs.length := by rw [List.length_append, hsl, List.length_drop]; omega
        rw [hcl]
        simp only [List.take_zero, List.nil_append, Nat.zero_add, hvl]
        rw [List.take_append, List.take_of_length_le (l := vs) (by omega), hvl]
        refine hvs.append ?_
        have := hV.drop nn
        rw [List.drop_take] at this
        exact this

/-- A function's value. -/
def fnOf : V → Option (FuncId × List V)
  | .fn f cs => some (f, cs)
  | .val (.func (.func f) ⟨[]⟩ ⟨[]⟩) => some (f, [])
  | _ => none
theorem fnOf_vr {v : V} {f : FuncId} {cs : List V} (h : fnOf v = some (f, cs)) (ρ : Env) (x : Value) (hv : Vr ρ v x) : Vr ρ (.fn f cs) x := by
  unfold fnOf at h
  split at h
  · cases h; exact hv
  · cases h
    simp only [Vr] at hv ⊢
    exact ⟨[], hv, by simp [VrL]⟩
  · cases h
end
end Go.Abs
