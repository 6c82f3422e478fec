/- Compact code: what it tells holds of the code. -/
import Derived.Test.YtfeokfaccaenhaaDoorB0
set_option linter.unusedVariables false
set_option linter.unusedSimpArgs false
namespace Go.Abs
open Go.Lib
section
variable {P : Program} {gid : Nat → Option Nat}

theorem force_eq {v : V} {k : V → Prop} (h : AnsP.frc v k) : k v := by cases v <;> exact h
theorem delK_eq {b : Nat} : ∀ {L : HL} {k : HL → Prop}, delK b L k → k (del b L)
  | [], k, h => h
  | (c, x) :: l, k, h => by
    simp only [delK] at h
    simp only [del]
    split
    · rename_i e; rw [if_pos e] at h; exact delK_eq h
    · rename_i e; rw [if_neg e] at h; exact delK_eq (k := fun l' => k ((c, x) :: l')) h
theorem delsK_eq : ∀ {cs L : HL} {k : HL → Prop}, delsK cs L k → k (dels cs L)
  | [], L, k, h => h
  | (b, _) :: cs, L, k, h => by
    simp only [delsK] at h
    show k (dels cs (del b L))
    exact delsK_eq (k := k) (delK_eq (k := fun L' => delsK cs L' k) h)
theorem appK_eq : ∀ {pr L : HL} {k : HL → Prop}, appK AnsP pr L k → k (pr ++ L)
  | [], L, k, h => h
  | (b, p) :: pr, L, k, h => by
    exact appK_eq (k := fun L' => k ((b, p) :: L')) h
theorem setK_eq {fr : Fr} {d : Option Nat} {v : V} {k : Fr → Prop} (h : setK fr d v k) : k (setO fr d v) := by cases d <;> exact h
theorem keepK_eq : ∀ {ks : List Nat} {fr : Fr} {k : Fr → Prop}, keepK AnsP ks fr k → k (keep ks fr)
  | [], fr, k, h => h
  | s :: ss, fr, k, h => by
    simp only [keepK] at h
    exact keepK_eq (k := fun l => k ((s, fget fr s) :: l)) (force_eq h)
theorem evs_eq {F : FF} : ∀ {xs : List Operand} {k : List V → Prop}, evs AnsP gid F xs k → k (xs.map (ev gid F))
  | [], k, h => h
  | x :: xs, k, h => by
    simp only [evs] at h
    exact evs_eq (k := fun vs => k (ev gid F x :: vs)) (force_eq h)

def partsEq (pl : Nat → Option (Nat × Nat)) : List (Nat × Nat × Nat × Operand) → List (Nat × Operand) → Bool
  | [], [] => true
  | (i, o, z, x) :: r, (i', x') :: r' => decide (i = i') && (decide (pl i = some (o, z)) && (opEq x x' && partsEq pl r r'))
  | _, _ => false
variable (P)
def tyBytes (t : TypeId) : Bool :=
  match P.info? t with
  | some i => decide (i.bytes ≤ 100000)
  | none => false
def tyZ (t : TypeId) : Bool :=
  match P.info? t with
  | some i => match i.zero with
    | some x => decide (x.cells.size = i.size)
    | none => false
  | none => false
/-- Is the compact operation this one? -/
def chkI (o : Oper) : I → Bool
  | .mv x => match o.op with
    | .move y => opEq x y
    | .assign y => opEq x y
    | _ => false
  | .pick c x y => match o.op with
    | .pick c' x' y' => opEq c c' && (opEq x x' && opEq y y')
    | _ => false
  | .new e z => match o.op with
    | .alloc e' => decide (e = e') && tyZero P e z
    | _ => false
  | .box e m x => match o.op with
    | .box e' x' => decide (e = e') && (opEq x x' && tyLen P e m)
    | _ => false
  | .ld m x => match o.op with
    | .load t x' => opEq x x' && tySize P t m
    | _ => false
  | .st m x y => match o.op with
    | .store t x' y' => opEq x x' && (opEq y y' && (tyLen P t m && decide (0 < m)))
    | _ => false
  | .bin op x y => match o.op with
    | .binOp op' _ x' y' _ => decide (op = op') && (opEq x x' && opEq y y')
    | _ => false
  | .un op x => match o.op with
    | .unOp op' _ x' => decide (op = op') && opEq x x'
    | _ => false
  | .cvi k x => match o.op with
    | .convert s d x' => opEq x x' && (match P.underlying s, P.underlying d with | some _, some (.int k') => decide (k = k') | _, _ => false)
    | _ => false
  | .fa off x => match o.op with
    | .fieldAddr s x' f => opEq x x' && (match P.underlying s with
      | some (.struct fs) => match fs[f]? with
        | some fd => match P.info? fd.type with
          | some i => decide (i.size ≠ 0) && decide (fd.offset = off)
          | none => false
        | none => false
      | _ => false)
    | _ => false
  | .ia z x i => match o.op with
    | .indexAddr t x' i' => opEq x x' && (opEq i i' && (match P.underlying t with
      | some (.slice e) => tyLen P e z
      | _ => false))
    | _ => false
  | .iaa len z x i => match o.op with
    | .indexAddr t x' i' => opEq x x' && (opEq i i' && (match P.underlying t with
      | some (.array n e) => decide (n = len) && tyLen P e z
      | _ => false))
    | _ => false
  | .clo f caps => match o.op with
    | .makeFunc (.func f') fi c => decide (f = f') && (decide (fi.toList.length = 0) && opsEq caps c.toList)
    | _ => false
  | .ext x i => match o.op with
    | .extract x' i' => opEq x x' && decide (i = i')
    | _ => false
  | .nilc x => match o.op with
    | .nilCheck x' => opEq x x'
    | _ => false
  | .len x => match o.op with
    | .call c => match c.callee with
      | .builtin .len => opsEq [x] c.args.toList && (match c.argTypes.toList with
        | [t] => match P.underlying t with
          | some (.slice _) => true
          | _ => false
        | _ => false)
      | _ => false
    | _ => false
  | .lens x => match o.op with
    | .call c => match c.callee with
      | .builtin .len => opsEq [x] c.args.toList && (match c.argTypes.toList with
        | [t] => match P.underlying t with
          | some .string => true
          | _ => false
        | _ => false)
      | _ => false
    | _ => false
  | .bld t z ps => match o.op with
    | .build t' ps' => decide (t = t') && (match P.underlying t with
      | some (.struct fs) => (fs.all fun f => (P.info? f.type).isSome) && (tyZero P t z && partsEq (structPlace P fs) ps ps'.toList)
      | _ => false)
    | _ => false
  | .bsl e len sz z ps => match o.op with
    | .buildSlice t len' ps' => decide (len = len') && (decide (len * sz ≤ 16777216) && (decide (len ≤ 1000000000) && ((match P.underlying t with
      | some (.slice e') => decide (e = e') && (tyZero P e z && tyLen P e sz)
      | _ => false) && partsEq (slicePlace sz) ps ps'.toList)))
    | _ => false
  | .eqs m t neg x y => match o.op with
    | .binOp op t' x' y' _ => decide (t = t') && (decide (op = if neg then .neq else .eql) && (opEq x x' && (opEq y y' && (match P.underlying t with
      | some (.struct fs) => decide (fs.size = m) && intFields P 0 fs.toList && (!P.stoodInHeld t && !P.eqGuardType P.depth t)
      | _ => false))))
    | _ => false
  | .ixs x i => match o.op with
    | .index t x' i' => opEq x x' && (opEq i i' && (match P.underlying t with | some .string => true | _ => false))
    | _ => false
  | .ixa len z m x i => match o.op with
    | .index t x' i' => opEq x x' && (opEq i i' && (match P.underlying t with
      | some (.array len' e) => decide (len = len') && (tyLen P e z && tySize P e m)
      | _ => false))
    | _ => false
  | .slc z x lo hi => match o.op with
    | .slice t x' lo' hi' mx => opEq x x' && (ooEq lo lo' && (ooEq hi hi' && (mx.isNone && (match P.underlying t with
      | some (.slice e) => tyLen P e z && decide (0 < z)
      | _ => false))))
    | _ => false
  | .sls x lo hi => match o.op with
    | .slice t x' lo' hi' mx => opEq x x' && (ooEq lo lo' && (ooEq hi hi' && (mx.isNone && (match P.underlying t with
      | some .string => true
      | _ => false))))
    | _ => false
  | .msl e z x y => match o.op with
    | .makeSlice t x' y' => opEq x x' && (opEq y y' && (match P.underlying t with
      | some (.slice e') => decide (e = e') && (tyZero P e z && tyBytes P e)
      | _ => false))
    | _ => false
  | .rng x => match o.op with
    | .range t x' => opEq x x' && (match P.underlying t with | some .string => true | _ => false)
    | _ => false
  | .nxt x => match o.op with
    | .next x' s => opEq x x' && s
    | _ => false
  | .app e z s x => match o.op with
    | .call c => match c.callee with
      | .builtin .append => opsEq [s, x] c.args.toList && (match c.argTypes.toList with
        | [t, t'] => decide (t = t') && (match P.underlying t with
          | some (.slice e') => decide (e = e') && (tyZ P e && (tyLen P e z && tyBytes P e))
          | _ => false)
        | _ => false)
      | _ => false
    | _ => false
  | .b2s x => match o.op with
    | .convert src dst x' => opEq x x' && (match P.underlying src, P.underlying dst with
      | some (.slice e), some .string => (match P.underlying e with | some (.int .u8) => true | _ => false)
      | _, _ => false)
    | _ => false
  | .apps e s x => match o.op with
    | .call c => match c.callee with
      | .builtin .append => opsEq [s, x] c.args.toList && (match c.argTypes.toList with
        | [t, u] => match P.underlying t, P.underlying u with
          | some (.slice e'), some .string => decide (e = e') && (tyZ P e && (tyLen P e 1 && tyBytes P e))
          | _, _ => false
        | _ => false)
      | _ => false
    | _ => false
  | .mn x y => match o.op with
    | .call c => match c.callee with
      | .builtin .min => opsEq [x, y] c.args.toList && (match c.argTypes.toList with | [_, _] => true | _ => false)
      | _ => false
    | _ => false
  | .mx x y => match o.op with
    | .call c => match c.callee with
      | .builtin .max => opsEq [x, y] c.args.toList && (match c.argTypes.toList with | [_, _] => true | _ => false)
      | _ => false
    | _ => false
  | .call f xs => match o.op with
    | .call c => match c.callee with
      | .value (.func f') => decide (f = f') && opsEq xs c.args.toList
      | _ => false
    | _ => false
  | .callv g xs => match o.op with
    | .call c => match c.callee with
      | .value g' => opEq g g' && opsEq xs c.args.toList
      | _ => false
    | _ => false
  | .eqb neg x y => match o.op with
    | .binOp op t' x' y' _ => decide (op = if neg then .neq else .eql) && (opEq x x' && (opEq y y' && (match P.underlying t' with
      | some .bool => true
      | _ => false)))
    | _ => false
  | .eqf neg x y => match o.op with
    | .binOp op t' x' y' _ => decide (op = if neg then .neq else .eql) && (opEq x x' && (opEq y y' && (match P.underlying t' with
      | some td => isFuncT td
      | none => false)))
    | _ => false
  | .ifc t x => match o.op with
    | .makeInterface t' x' => decide (t = t') && (opEq x x' && (match P.underlying t with
      | some td => !isIface td
      | none => false))
    | _ => false
  | .asr t z x => match o.op with
    | .typeAssert x' _ t' ok => decide (t = t') && (ok && (opEq x x' && ((match P.underlying t with
      | some td => !isIface td
      | none => false) && (match P.info? t with
      | some i => match i.zero with
        | some (.agg ⟨l⟩) => valsEq l z
        | _ => false
      | none => false))))
    | _ => false
  | .mmap => match o.op with
    | .makeMap _ none => true
    | _ => false
  | .lkp zero ok m ky => match o.op with
    | .lookup mt m' k' ok' => opEq m m' && (opEq ky k' && (decide (ok = ok') && (match P.underlying mt with
      | some (.map kt et) => (match P.underlying kt with
        | some (.int _) => true
        | _ => false) && (match P.info? et with
        | some i => match i.zero with
          | some zv => valEq zv zero
          | none => false
        | none => false)
      | _ => false)))
    | _ => false
  | .mup m ky v => match o.op with
    | .mapUpdate mt m' k' v' => opEq m m' && (opEq ky k' && (opEq v v' && (match P.underlying mt with
      | some (.map kt _) => (match P.underlying kt with
        | some (.int _) => true
        | _ => false)
      | _ => false)))
    | .insert mt m' k' v' => opEq m m' && (opEq ky k' && (opEq v v' && (match P.underlying mt with
      | some (.map kt _) => (match P.underlying kt with
        | some (.int _) => true
        | _ => false)
      | _ => false)))
    | _ => false
  | .lenm x => match o.op with
    | .call c => match c.callee with
      | .builtin .len => opsEq [x] c.args.toList && (match c.argTypes.toList with
        | [t] => match P.underlying t with
          | some (.map _ _) => true
          | _ => false
        | _ => false)
      | _ => false
    | _ => false
  | .cpy _ x y => match o.op with
    | .call c => match c.callee with
      | .builtin .copy => opsEq [x, y] c.args.toList && (match c.argTypes.toList with
        | [dT, _] => match P.underlying dT with
          | some (.slice el) => tyLen P el 1
          | _ => false
        | _ => false)
      | _ => false
    | _ => false

variable {P}

theorem tyLen_spec {t : TypeId} {m : Nat} (h : tyLen P t m = true) : ∃ i, P.info? t = some i ∧ i.size = m := by
  unfold tyLen at h
  split at h
  · rename_i i hi; exact ⟨i, hi, of_decide_eq_true h⟩
  · cases h
theorem tyZero_spec {t : TypeId} {z : List Value} (h : tyZero P t z = true) : ∃ i x, P.info? t = some i ∧ i.zero = some x ∧ x.cells.toList = z ∧ x.cells.size = i.size := by
  unfold tyZero at h
  split at h
  · rename_i i hi
    split at h
    · rename_i x hx
      simp at h
      exact ⟨i, x, hi, hx, valsEq_eq h.1, h.2⟩
    · cases h
  · cases h

theorem tyBytes_spec {t : TypeId} (h : tyBytes P t = true) : ∃ i, P.info? t = some i ∧ i.bytes ≤ 100000 := by
  unfold tyBytes at h
  split at h
  · rename_i i hi; exact ⟨i, hi, of_decide_eq_true h⟩
  · cases h
theorem tyZ_spec {t : TypeId} (h : tyZ P t = true) : ∃ i x, P.info? t = some i ∧ i.zero = some x ∧ x.cells.size = i.size := by
  unfold tyZ at h
  split at h
  · rename_i i hi
    split at h
    · rename_i x hx; exact ⟨i, x, hi, hx, of_decide_eq_true h⟩
    · cases h
  · cases h
theorem prts_eq {F : FF} {pl : Nat → Option (Nat × Nat)} : ∀ {ps : List (Nat × Nat × Nat × Operand)} {ps' : List (Nat × Operand)} {k : List (Nat × V) → Prop}, partsEq pl ps ps' = true → prts AnsP gid F ps k →
    (∀ p ∈ ps', ∃ o, pl p.1 = some (o, (ev gid F p.2).cells.length)) ∧ k (mkParts gid F pl ps')
  | [], [], k, _, h => ⟨fun _ h => (nomatch h), h⟩
  | (i, o, z, x) :: r, (i', x') :: r', k, he, h => by
    simp only [partsEq, Bool.and_eq_true, decide_eq_true_eq] at he
    obtain ⟨rfl, h1, h2, h3⟩ := he
    have e := opEq_eq h2; subst e
    simp only [prts, AnsP_cnd] at h
    obtain ⟨hz, h⟩ := force_eq h
    obtain ⟨h4, h5⟩ := prts_eq (k := fun l => k ((o, ev gid F x) :: l)) h3 h
    refine ⟨fun p hp => ?_, ?_⟩
    · rcases List.mem_cons.1 hp with rfl | hp
      · exact ⟨o, by rw [h1, hz]⟩
      · exact h4 p hp
    · simp only [mkParts, List.map_cons, h1, Option.map_some, Option.getD_some]
      exact h5
  | [], _ :: _, _, he, _ => by simp [partsEq] at he
  | _ :: _, [], _, he, _ => by simp [partsEq] at he
theorem bnd_eq {F : FF} {o : Option Operand} {dflt : Nat} {k : Nat → Prop} (h : bnd AnsP gid F o dflt k) : ∃ l, ((o = none ∧ l = dflt) ∨ ∃ y kd, o = some y ∧ ev gid F y = .val (.int kd (l : Int))) ∧ k l := by
  cases o with
  | none => exact ⟨dflt, .inl ⟨rfl, rfl⟩, h⟩
  | some y =>
    simp only [bnd, AnsP_cnd, AnsP_bad] at h
    split at h
    · rename_i kd j hj
      refine ⟨j.toNat, .inr ⟨y, kd, rfl, ?_⟩, h.2⟩
      rw [hj]
      congr 2
      have := h.1
      omega
    · exact h.elim

theorem eqInts_eq : ∀ {la lb : List (IntKind × Int)}, la.map (·.1) = lb.map (·.1) → eqInts la lb = decide (la.map (·.2) = lb.map (·.2))
  | [], [], _ => rfl
  | (_, a) :: l, (_, b) :: m, h => by
    simp only [List.map_cons, List.cons.injEq] at h
    simp only [eqInts, List.map_cons, List.cons.injEq, eqInts_eq h.2, Bool.decide_and]
  | [], _ :: _, h => by simp at h
  | _ :: _, [], h => by simp at h
/-- WHAT THE COMPACT OPERATION TELLS HOLDS. -/
theorem stp_sound {o : Oper} {fr : Fr} {L : HL} {n : Nat} {k : V → HL → HL → HL → Nat → Prop} {i : I} (hc : chkI P o i = true) (h : stp AnsP gid (CallK P gid) fr L n k i) :
    ∃ v rd cs pr n', OpOK P gid o (fget fr) rd cs pr n n' v ∧ within L rd ∧ within L cs ∧ k v rd cs pr n' := by
  obtain ⟨d, op, ty, pos, aft, gd⟩ := o
  cases i with
  | mv x =>
    simp only [stp, AnsP_cnd, AnsP_bad] at h
    have hk := force_eq h
    simp only [chkI] at hc
    split at hc
    · rename_i y; rw [opEq_eq hc] at hk; exact ⟨_, _, _, _, _, ok_move y, within_nil _, within_nil _, hk⟩
    · rename_i y; rw [opEq_eq hc] at hk; exact ⟨_, _, _, _, _, ok_assign y, within_nil _, within_nil _, hk⟩
    · cases hc
  | pick c x y =>
    simp only [chkI] at hc
    split at hc
    · rename_i c' x' y'
      simp only [Bool.and_eq_true] at hc
      obtain ⟨h1, h2, h3⟩ := hc
      have e1 := opEq_eq h1; have e2 := opEq_eq h2; have e3 := opEq_eq h3
      subst e1; subst e2; subst e3
      simp only [stp, AnsP_cnd, AnsP_bad] at h
      split at h
      · rename_i t ht
        cases t
        · exact ⟨_, _, _, _, _, ok_pick c x y ht, within_nil _, within_nil _, force_eq h⟩
        · exact ⟨_, _, _, _, _, ok_pick c x y ht, within_nil _, within_nil _, force_eq h⟩
      · exact h.elim
    · cases hc
  | new e z =>
    simp only [chkI] at hc
    split at hc
    · rename_i e'
      simp only [Bool.and_eq_true, decide_eq_true_eq] at hc
      obtain ⟨rfl, h1⟩ := hc
      obtain ⟨i, x, hi, hz, rfl, hs⟩ := tyZero_spec h1
      exact ⟨_, _, _, _, _, ok_alloc hi hz hs, within_nil _, within_nil _, h⟩
    · cases hc
  | box e m x =>
    simp only [chkI] at hc
    split at hc
    · rename_i e' x'
      simp only [Bool.and_eq_true, decide_eq_true_eq] at hc
      obtain ⟨rfl, h1, h2⟩ := hc
      have e1 := opEq_eq h1; subst e1
      obtain ⟨i, hi, hs⟩ := tyLen_spec h2
      simp only [stp, AnsP_cnd, AnsP_bad] at h
      obtain ⟨h3, h4, h5⟩ := force_eq h
      exact ⟨_, _, _, _, _, ok_box hi rfl (h3.trans hs.symm) h4, within_nil _, within_nil _, h5⟩
    · cases hc
  | ld m x =>
    simp only [chkI] at hc
    split at hc
    · rename_i t x'
      simp only [Bool.and_eq_true] at hc
      obtain ⟨h1, h2⟩ := hc
      have e1 := opEq_eq h1; subst e1
      unfold tySize at h2
      split at h2
      · rename_i td i htd hi
        cases m with
        | none =>
          simp at h2
          simp only [stp, AnsP_cnd, AnsP_bad] at h
          split at h
          · rename_i b o hp
            simp only [cellK, AnsP_cnd, AnsP_bad] at h
            split at h
            · rename_i e cs hb
              split at h
              · rename_i c hcc
                exact ⟨_, _, _, _, _, ok_load1_own htd h2 hp hcc, within_one hb, within_nil _, force_eq h⟩
              · exact h.elim
            · rename_i l hb
              split at h
              · rename_i v hv
                exact ⟨_, _, _, _, _, ok_load1_ro htd h2 hp hv, within_one hb, within_nil _, force_eq h⟩
              · exact h.elim
            · exact h.elim
          · exact h.elim
        | some m =>
          simp at h2
          obtain ⟨h2, rfl⟩ := h2
          simp only [stp, AnsP_cnd, AnsP_bad] at h
          split at h
          · rename_i b o hp
            simp only [cellsK, AnsP_cnd, AnsP_bad] at h
            split at h
            · rename_i e cs hb
              exact ⟨_, _, _, _, _, ok_loadN_own htd h2 hi hp h.1, within_one hb, within_nil _, h.2⟩
            · rename_i l hb
              exact ⟨_, _, _, _, _, ok_loadN_ro htd h2 hi hp h.1, within_one hb, within_nil _, h.2⟩
            · exact h.elim
          · exact h.elim
      · cases h2
    · cases hc
  | st m x y =>
    simp only [chkI] at hc
    split at hc
    · rename_i t x' y'
      simp only [Bool.and_eq_true, decide_eq_true_eq] at hc
      obtain ⟨h1, h2, h3, h4⟩ := hc
      have e1 := opEq_eq h1; have e2 := opEq_eq h2
      subst e1; subst e2
      obtain ⟨i, hi, rfl⟩ := tyLen_spec h3
      simp only [stp, AnsP_cnd, AnsP_bad] at h
      split at h
      · rename_i b o hp
        split at h
        · rename_i e cs hb
          obtain ⟨h5, h6, h7, h8⟩ := force_eq h
          exact ⟨_, _, _, _, _, ok_store hi h4 hp rfl h5 h6 h7, within_nil _, within_one hb, h8⟩
        · exact h.elim
      · exact h.elim
    · cases hc
  | bin op' x y =>
    simp only [chkI] at hc
    split at hc
    · rename_i op2 t x' y' yt
      simp only [Bool.and_eq_true, decide_eq_true_eq] at hc
      obtain ⟨rfl, h2, h3⟩ := hc
      have e1 := opEq_eq h2; have e2 := opEq_eq h3
      subst e1; subst e2
      simp only [stp, AnsP_cnd, AnsP_bad] at h
      split at h
      · rename_i u hu
        split at h
        · rename_i v hv
          split at h
          · rename_i r hr
            exact ⟨_, _, _, _, _, ok_binOp hu hv hr, within_nil _, within_nil _, h⟩
          · exact h.elim
        · exact h.elim
      · exact h.elim
    · cases hc
  | un op' x =>
    simp only [chkI] at hc
    split at hc
    · rename_i op2 t x'
      simp only [Bool.and_eq_true, decide_eq_true_eq] at hc
      obtain ⟨rfl, h2⟩ := hc
      have e1 := opEq_eq h2; subst e1
      simp only [stp, AnsP_cnd, AnsP_bad] at h
      split at h
      · rename_i u hu
        split at h
        · rename_i r hr
          exact ⟨_, _, _, _, _, ok_unOp hu hr, within_nil _, within_nil _, h⟩
        · exact h.elim
      · exact h.elim
    · cases hc
  | cvi kd x =>
    simp only [chkI] at hc
    split at hc
    · rename_i s dd x'
      simp only [Bool.and_eq_true] at hc
      obtain ⟨h1, h2⟩ := hc
      have e1 := opEq_eq h1; subst e1
      split at h2
      · rename_i sd k' hs hd
        have e2 := of_decide_eq_true h2; subst e2
        simp only [stp, AnsP_cnd, AnsP_bad] at h
        split at h
        · rename_i k0 z hz
          exact ⟨_, _, _, _, _, ok_convInt hs hd hz, within_nil _, within_nil _, h⟩
        · exact h.elim
      · cases h2
    · cases hc
  | fa off x =>
    simp only [chkI] at hc
    split at hc
    · rename_i s x' f
      simp only [Bool.and_eq_true] at hc
      obtain ⟨h1, h2⟩ := hc
      have e1 := opEq_eq h1; subst e1
      split at h2
      · rename_i fs hs
        split at h2
        · rename_i fd hf
          split at h2
          · rename_i i hi
            simp only [Bool.and_eq_true, decide_eq_true_eq] at h2
            obtain ⟨h3, rfl⟩ := h2
            simp only [stp, AnsP_cnd, AnsP_bad] at h
            split at h
            · rename_i b o hp
              exact ⟨_, _, _, _, _, ok_fieldAddr hs hf hi h3 hp, within_nil _, within_nil _, h⟩
            · exact h.elim
          · cases h2
        · cases h2
      · cases h2
    · cases hc
  | ia z x i =>
    simp only [chkI] at hc
    split at hc
    · rename_i t x' i'
      simp only [Bool.and_eq_true] at hc
      obtain ⟨h1, h2, h3⟩ := hc
      have e1 := opEq_eq h1; have e2 := opEq_eq h2
      subst e1; subst e2
      split at h3
      · rename_i e ht
        obtain ⟨ti, hi, rfl⟩ := tyLen_spec h3
        simp only [stp, AnsP_cnd, AnsP_bad] at h
        split at h
        · rename_i b o len hp
          split at h
          · rename_i k0 j hj
            exact ⟨_, _, _, _, _, ok_indexAddr ht hi hp hj h.1 h.2.1, within_nil _, within_nil _, h.2.2⟩
          · exact h.elim
        · exact h.elim
      · cases h3
    · cases hc
  | iaa len z x i =>
    simp only [chkI] at hc
    split at hc
    · rename_i t x' i'
      simp only [Bool.and_eq_true] at hc
      obtain ⟨h1, h2, h3⟩ := hc
      have e1 := opEq_eq h1; have e2 := opEq_eq h2
      subst e1; subst e2
      split at h3
      · rename_i m e ht
        simp only [Bool.and_eq_true, decide_eq_true_eq] at h3
        obtain ⟨rfl, h3⟩ := h3
        obtain ⟨ti, hi, rfl⟩ := tyLen_spec h3
        simp only [stp, AnsP_cnd, AnsP_bad] at h
        split at h
        · rename_i b o hp
          split at h
          · rename_i k0 j hj
            exact ⟨_, _, _, _, _, ok_indexAddrArr ht hi hp hj h.1 h.2.1, within_nil _, within_nil _, h.2.2⟩
          · exact h.elim
        · exact h.elim
      · cases h3
    · cases hc
  | clo f caps =>
    simp only [chkI] at hc
    split at hc
    · rename_i f' fi c
      simp only [Bool.and_eq_true, decide_eq_true_eq] at hc
      obtain ⟨rfl, h1, h2⟩ := hc
      have e1 := opsEq_eq h2
      have e2 : fi = #[] := by
        have := List.eq_nil_of_length_eq_zero h1
        simpa using this
      subst e2
      have e3 : c = caps.toArray := by rw [e1]
      subst e3
      exact ⟨_, _, _, _, _, ok_makeFunc f caps, within_nil _, within_nil _, evs_eq h⟩
    · cases hc
  | ext x i =>
    simp only [chkI] at hc
    split at hc
    · rename_i x' i'
      simp only [Bool.and_eq_true, decide_eq_true_eq] at hc
      obtain ⟨h1, rfl⟩ := hc
      have e1 := opEq_eq h1; subst e1
      simp only [stp, AnsP_cnd, AnsP_bad] at h
      split at h
      · rename_i vs hvs
        split at h
        · rename_i v hv
          exact ⟨_, _, _, _, _, ok_extract x i hvs hv, within_nil _, within_nil _, force_eq h⟩
        · exact h.elim
      · exact h.elim
    · cases hc
  | nilc x =>
    simp only [chkI] at hc
    split at hc
    · rename_i x'
      have e1 := opEq_eq hc; subst e1
      simp only [stp, AnsP_cnd, AnsP_bad] at h
      split at h
      · rename_i b o hp
        exact ⟨_, _, _, _, _, ok_nilCheck x hp, within_nil _, within_nil _, h⟩
      · exact h.elim
    · cases hc
  | len x =>
    simp only [chkI] at hc
    split at hc
    · rename_i c
      obtain ⟨cal, args, ats⟩ := c
      simp only at hc
      split at hc
      · simp only [Bool.and_eq_true] at hc
        obtain ⟨h1, h2⟩ := hc
        have e1 : args = #[x] := by
          have e : args.toList = [x] := (opsEq_eq h1).symm
          exact Array.toList_inj.1 (by simpa using e)
        subst e1
        split at h2
        · rename_i t hat
          have e2 : ats = #[t] := Array.toList_inj.1 (by simpa using hat)
          subst e2
          split at h2
          · rename_i e ht
            simp only [stp, AnsP_cnd, AnsP_bad] at h
            split at h
            · rename_i b o len hp; exact ⟨_, _, _, _, _, ok_lenSlice ht hp, within_nil _, within_nil _, h⟩
            · rename_i A len c hp; exact ⟨_, _, _, _, _, ok_lenNil ht hp, within_nil _, within_nil _, h⟩
            · exact h.elim
          · cases h2
        · cases h2
      · cases hc
    · cases hc
  | lens x =>
    simp only [chkI] at hc
    split at hc
    · rename_i c
      obtain ⟨cal, args, ats⟩ := c
      simp only at hc
      split at hc
      · simp only [Bool.and_eq_true] at hc
        obtain ⟨h1, h2⟩ := hc
        have e1 : args = #[x] := by
          have e : args.toList = [x] := (opsEq_eq h1).symm
          exact Array.toList_inj.1 (by simpa using e)
        subst e1
        split at h2
        · rename_i t hat
          have e2 : ats = #[t] := Array.toList_inj.1 (by simpa using hat)
          subst e2
          split at h2
          · rename_i ht
            simp only [stp, AnsP_cnd, AnsP_bad] at h
            split at h
            · rename_i s hp; exact ⟨_, _, _, _, _, ok_lenString ht hp, within_nil _, within_nil _, h⟩
            · exact h.elim
          · cases h2
        · cases h2
      · cases hc
    · cases hc
  | eqs m t neg x y =>
    simp only [chkI] at hc
    split at hc
    · rename_i op2 t' x' y' yt
      simp only [Bool.and_eq_true, decide_eq_true_eq] at hc
      obtain ⟨rfl, rfl, h2, h3, h4⟩ := hc
      have e1 := opEq_eq h2; have e2 := opEq_eq h3
      subst e1; subst e2
      split at h4
      · rename_i fs hu
        simp only [Bool.and_eq_true, Bool.not_eq_true', decide_eq_true_eq] at h4
        obtain ⟨⟨hm, h5⟩, h6, h7⟩ := h4
        simp only [stp, AnsP_cnd, AnsP_bad] at h
        split at h
        · rename_i cs hx
          split at h
          · rename_i ds hy
            split at h
            · rename_i la hla
              split at h
              · rename_i lb hlb
                have hop := ok_eqStruct (P := P) (n := n) (dd := d) (ty := ty) (pos := pos) (aft := aft) (gd := gd) (yt := yt) (neg := neg) hx hy hla hlb h.2.1 hu h5 (hm.trans h.1.symm) h6 h7
                rw [eqInts_eq h.2.1] at h
                cases neg
                · exact ⟨_, _, _, _, _, hop, within_nil _, within_nil _, h.2.2⟩
                · exact ⟨_, _, _, _, _, hop, within_nil _, within_nil _, h.2.2⟩
              · exact h.elim
            · exact h.elim
          · exact h.elim
        · exact h.elim
      · cases h4
    · cases hc
  | ixs x i =>
    simp only [chkI] at hc
    split at hc
    · rename_i t x' i'
      simp only [Bool.and_eq_true] at hc
      obtain ⟨h1, h2, h3⟩ := hc
      have e1 := opEq_eq h1; have e2 := opEq_eq h2
      subst e1; subst e2
      split at h3
      · rename_i ht
        simp only [stp, AnsP_cnd, AnsP_bad] at h
        split at h
        · rename_i s hs
          split at h
          · rename_i kd j hj
            exact ⟨_, _, _, _, _, ok_indexStr ht hs hj h.1 h.2.1, within_nil _, within_nil _, h.2.2⟩
          · exact h.elim
        · exact h.elim
      · cases h3
    · cases hc
  | ixa len z m x i =>
    simp only [chkI] at hc
    split at hc
    · rename_i t x' i'
      simp only [Bool.and_eq_true] at hc
      obtain ⟨h1, h2, h3⟩ := hc
      have e1 := opEq_eq h1; have e2 := opEq_eq h2
      subst e1; subst e2
      split at h3
      · rename_i len' e ht
        simp only [Bool.and_eq_true, decide_eq_true_eq] at h3
        obtain ⟨rfl, h4, h5⟩ := h3
        obtain ⟨ti, hi, rfl⟩ := tyLen_spec h4
        unfold tySize at h5
        split at h5
        · rename_i td ti' htd hi'
          simp only [stp, AnsP_cnd, AnsP_bad] at h
          split at h
          · rename_i cs hcs
            split at h
            · rename_i kd j hj
              cases m with
              | none =>
                simp at h5
                obtain ⟨h6, h7, h8⟩ := h
                simp only at h8
                split at h8
                · rename_i v hv
                  exact ⟨_, _, _, _, _, ok_indexAgg ht hi htd hcs hj h6 h7 (.inl ⟨h5, hv⟩), within_nil _, within_nil _, force_eq h8⟩
                · exact h8.elim
              | some m =>
                simp at h5
                obtain ⟨h6, h7, h8, h9⟩ := h
                exact ⟨_, _, _, _, _, ok_indexAgg ht hi htd hcs hj h6 h7 (.inr ⟨h5.1, h8, rfl⟩), within_nil _, within_nil _, h9⟩
            · exact h.elim
          · exact h.elim
        · cases h5
      · cases h3
    · cases hc
  | slc z x lo hi =>
    simp only [chkI] at hc
    split at hc
    · rename_i t x' lo' hi' mx
      simp only [Bool.and_eq_true, Option.isNone_iff_eq_none] at hc
      obtain ⟨h1, h2, h3, rfl, h4⟩ := hc
      have e1 := opEq_eq h1; have e2 := ooEq_eq h2; have e3 := ooEq_eq h3
      subst e1; subst e2; subst e3
      split at h4
      · rename_i e ht
        simp only [Bool.and_eq_true, decide_eq_true_eq] at h4
        obtain ⟨h5, h6⟩ := h4
        obtain ⟨ti, hi, rfl⟩ := tyLen_spec h5
        simp only [stp, AnsP_cnd, AnsP_bad] at h
        split at h
        · rename_i b o len hx
          obtain ⟨l, hl, h7⟩ := bnd_eq h
          obtain ⟨hh, hhh, h8, h9, h10⟩ := bnd_eq h7
          exact ⟨_, _, _, _, _, ok_slice ht hi h6 hx hl hhh h8 h9, within_nil _, within_nil _, h10⟩
        · exact h.elim
      · cases h4
    · cases hc
  | sls x lo hi =>
    simp only [chkI] at hc
    split at hc
    · rename_i t x' lo' hi' mx
      simp only [Bool.and_eq_true, Option.isNone_iff_eq_none] at hc
      obtain ⟨h1, h2, h3, rfl, h4⟩ := hc
      have e1 := opEq_eq h1; have e2 := ooEq_eq h2; have e3 := ooEq_eq h3
      subst e1; subst e2; subst e3
      split at h4
      · rename_i ht
        simp only [stp, AnsP_cnd, AnsP_bad] at h
        split at h
        · rename_i s hx
          obtain ⟨l, hl, h7⟩ := bnd_eq h
          obtain ⟨hh, hhh, h8, h9, h10⟩ := bnd_eq h7
          exact ⟨_, _, _, _, _, ok_sliceStr ht hx hl hhh h8 h9, within_nil _, within_nil _, h10⟩
        · exact h.elim
      · cases h4
    · cases hc
  | msl e z x y =>
    simp only [chkI] at hc
    split at hc
    · rename_i t x' y'
      simp only [Bool.and_eq_true] at hc
      obtain ⟨h1, h2, h3⟩ := hc
      have e1 := opEq_eq h1; have e2 := opEq_eq h2
      subst e1; subst e2
      split at h3
      · rename_i e' ht
        simp only [Bool.and_eq_true, decide_eq_true_eq] at h3
        obtain ⟨rfl, h4, h5⟩ := h3
        obtain ⟨i, zz, hi, hz, hzl, hzs⟩ := tyZero_spec h4
        obtain ⟨i', hi', hby⟩ := tyBytes_spec h5
        rw [hi] at hi'; cases hi'
        simp only [stp, AnsP_cnd, AnsP_bad] at h
        split at h
        · rename_i kd l hl
          split at h
          · rename_i kd' c hcc
            obtain ⟨h6, rfl, h7, h8⟩ := h
            obtain ⟨m, rfl⟩ := Int.eq_ofNat_of_zero_le h6
            have hzz : z.length = i.size := by rw [← hzl]; simpa using hzs
            have hget : ∀ j : Nat, z[j]! = zz.cells[j]! := by
              intro j
              rw [← hzl]
              simp [getElem!_def]
            refine ⟨_, _, _, _, _, ok_makeSlice ht hi hz hzs (l := m) hl hcc hby (by omega), within_nil _, within_nil _, ?_⟩
            simp only [Int.toNat_natCast] at h8
            have hfun : ((List.range (m * i.size)).map fun j => zz.cells[j % zz.cells.size]!) = (List.range (m * z.length)).map fun j => z[j % z.length]! := by
              rw [hzz, hzs]
              exact List.map_congr_left fun j _ => (hget _).symm
            rw [hfun]
            exact h8
          · exact h.elim
        · exact h.elim
      · cases h3
    · cases hc
  | rng x =>
    simp only [chkI] at hc
    split at hc
    · rename_i t x'
      simp only [Bool.and_eq_true] at hc
      obtain ⟨h1, h3⟩ := hc
      have e1 := opEq_eq h1
      subst e1
      split at h3
      · rename_i ht
        simp only [stp, AnsP_cnd, AnsP_bad] at h
        split at h
        · rename_i s hs
          exact ⟨_, _, _, _, _, ok_range ht hs, within_nil _, within_nil _, h⟩
        · exact h.elim
      · cases h3
    · cases hc
  | nxt x =>
    simp only [chkI] at hc
    split at hc
    · rename_i x' sb
      simp only [Bool.and_eq_true] at hc
      obtain ⟨h1, rfl⟩ := hc
      have e1 := opEq_eq h1
      subst e1
      simp only [stp, AnsP_cnd, AnsP_bad] at h
      split at h
      · rename_i b o hx
        split at h
        · split at h
          · rename_i s p hb
            split at h
            · rename_i hp
              exact ⟨_, _, _, _, _, ok_next hx rfl (of_decide_eq_true hp), within_nil _, within_one hb, h⟩
            · rename_i hp
              exact ⟨_, _, _, _, _, ok_next_end hx rfl (of_decide_eq_false hp), within_one hb, within_nil _, h⟩
          · exact h.elim
        · exact h.elim
      · exact h.elim
    · cases hc
  | app e z s x =>
    simp only [chkI] at hc
    split at hc
    · rename_i c
      obtain ⟨cal, args, ats⟩ := c
      simp only at hc
      split at hc
      · simp only [Bool.and_eq_true] at hc
        obtain ⟨h1, h2⟩ := hc
        have e1 : args = #[s, x] := by
          have e : args.toList = [s, x] := (opsEq_eq h1).symm
          exact Array.toList_inj.1 (by simpa using e)
        subst e1
        split at h2
        · rename_i t t' hat
          have e2 : ats = #[t, t'] := Array.toList_inj.1 (by simpa using hat)
          subst e2
          simp only [Bool.and_eq_true, decide_eq_true_eq] at h2
          obtain ⟨rfl, h2⟩ := h2
          split at h2
          · rename_i e' ht
            simp only [Bool.and_eq_true, decide_eq_true_eq] at h2
            obtain ⟨rfl, h3, h4, h5⟩ := h2
            obtain ⟨i, zz, hi, hz, hzs⟩ := tyZ_spec h3
            obtain ⟨i', hi', rfl⟩ := tyLen_spec h4
            rw [hi] at hi'; cases hi'
            obtain ⟨i', hi', hby⟩ := tyBytes_spec h5
            rw [hi] at hi'; cases hi'
            simp only [stp, AnsP_cnd, AnsP_bad] at h
            split at h
            · rename_i b2 o2 m hx
              split at h
              · rename_i k2 hk2
                split at h
                · rename_i b o len hs
                  split at h
                  · split at h
                    · rename_i e' cs hb
                      obtain ⟨rfl, h6, h7, h8, h9, h10⟩ := h
                      exact ⟨_, _, _, _, _, ok_append ht hi hz hzs hby hs hx h6 h7 h8 h9, within_one hk2, within_one hb, h10⟩
                    · exact h.elim
                  · exact h.elim
                · rename_i hs
                  obtain ⟨h6, h7, h8, h9⟩ := h
                  exact ⟨_, _, _, _, _, ok_append_nil ht hi hz hzs hby hs hx h6 h7 h8, within_one hk2, within_nil _, h9⟩
                · exact h.elim
              · exact h.elim
            · rename_i hx
              split at h
              · rename_i b o len hs
                exact ⟨_, _, _, _, _, ok_append_none ht hi hs hx, within_nil _, within_nil _, h⟩
              · rename_i hs
                exact ⟨_, _, _, _, _, ok_append_none2 ht hi hs hx, within_nil _, within_nil _, h⟩
              · exact h.elim
            · exact h.elim
          · cases h2
        · cases h2
      · cases hc
    · cases hc
  | b2s x =>
    simp only [chkI] at hc
    split at hc
    · rename_i src dst x'
      simp only [Bool.and_eq_true] at hc
      obtain ⟨h1, h2⟩ := hc
      have e1 := opEq_eq h1; subst e1
      split at h2
      · rename_i e hs hd
        split at h2
        · rename_i he
          simp only [stp, AnsP_cnd, AnsP_bad] at h
          split at h
          · rename_i b o len hx
            split at h
            · rename_i k2 hk2
              obtain ⟨h3, h4⟩ := h
              split at h4
              · rename_i l hl
                exact ⟨_, _, _, _, _, ok_b2s hs he hd hx h3 hl, within_one hk2, within_nil _, h4⟩
              · exact h4.elim
            · exact h.elim
          · rename_i hx
            exact ⟨_, _, _, _, _, ok_b2s_nil hs he hd hx, within_nil _, within_nil _, h⟩
          · exact h.elim
        · cases h2
      · cases h2
    · cases hc
  | apps e s x =>
    simp only [chkI] at hc
    split at hc
    · rename_i c
      obtain ⟨cal, args, ats⟩ := c
      simp only at hc
      split at hc
      · simp only [Bool.and_eq_true] at hc
        obtain ⟨h1, h2⟩ := hc
        have e1 : args = #[s, x] := by
          have e : args.toList = [s, x] := (opsEq_eq h1).symm
          exact Array.toList_inj.1 (by simpa using e)
        subst e1
        split at h2
        · rename_i t u hat
          have e2 : ats = #[t, u] := Array.toList_inj.1 (by simpa using hat)
          subst e2
          split at h2
          · rename_i e' ht hu
            simp only [Bool.and_eq_true, decide_eq_true_eq] at h2
            obtain ⟨rfl, h3, h4, h5⟩ := h2
            obtain ⟨i, zz, hi, hz, hzs⟩ := tyZ_spec h3
            obtain ⟨i', hi', hs1⟩ := tyLen_spec h4
            rw [hi] at hi'; cases hi'
            obtain ⟨i', hi', hby⟩ := tyBytes_spec h5
            rw [hi] at hi'; cases hi'
            simp only [stp, AnsP_cnd, AnsP_bad] at h
            split at h
            · rename_i str hx
              split at h
              · rename_i b o len hs
                split at h
                · split at h
                  · rename_i e' cs hb
                    obtain ⟨rfl, h6, h7, h8⟩ := h
                    exact ⟨_, _, _, _, _, ok_appends ht hu hi hz hzs hs1 hby hs hx (by rw [h6, hs1, Nat.mul_one]) h7, within_nil _, within_one hb, h8⟩
                  · exact h.elim
                · exact h.elim
              · rename_i hs
                obtain ⟨h7, h8⟩ := h
                exact ⟨_, _, _, _, _, ok_appends_nil ht hu hi hz hzs hs1 hby hs hx h7, within_nil _, within_nil _, h8⟩
              · exact h.elim
            · exact h.elim
          · cases h2
        · cases h2
      · cases hc
    · cases hc
  | mn x y =>
    simp only [chkI] at hc
    split at hc
    · rename_i c
      obtain ⟨cal, args, ats⟩ := c
      simp only at hc
      split at hc
      · simp only [Bool.and_eq_true] at hc
        obtain ⟨h1, h2⟩ := hc
        have e1 : args = #[x, y] := by
          have e : args.toList = [x, y] := (opsEq_eq h1).symm
          exact Array.toList_inj.1 (by simpa using e)
        subst e1
        split at h2
        · rename_i t t' hat
          have e2 : ats = #[t, t'] := Array.toList_inj.1 (by simpa using hat)
          subst e2
          simp only [stp, AnsP_cnd, AnsP_bad] at h
          split at h
          · rename_i kd u hu
            split at h
            · rename_i kd' v hv
              obtain ⟨rfl, h⟩ := h
              exact ⟨_, _, _, _, _, ok_min hu hv, within_nil _, within_nil _, h⟩
            · exact h.elim
          · exact h.elim
        · cases h2
      · cases hc
    · cases hc
  | mx x y =>
    simp only [chkI] at hc
    split at hc
    · rename_i c
      obtain ⟨cal, args, ats⟩ := c
      simp only at hc
      split at hc
      · simp only [Bool.and_eq_true] at hc
        obtain ⟨h1, h2⟩ := hc
        have e1 : args = #[x, y] := by
          have e : args.toList = [x, y] := (opsEq_eq h1).symm
          exact Array.toList_inj.1 (by simpa using e)
        subst e1
        split at h2
        · rename_i t t' hat
          have e2 : ats = #[t, t'] := Array.toList_inj.1 (by simpa using hat)
          subst e2
          simp only [stp, AnsP_cnd, AnsP_bad] at h
          split at h
          · rename_i kd u hu
            split at h
            · rename_i kd' v hv
              obtain ⟨rfl, h⟩ := h
              exact ⟨_, _, _, _, _, ok_max hu hv, within_nil _, within_nil _, h⟩
            · exact h.elim
          · exact h.elim
        · cases h2
      · cases hc
    · cases hc
  | bld t z ps =>
    simp only [chkI] at hc
    split at hc
    · rename_i t' ps'
      simp only [Bool.and_eq_true, decide_eq_true_eq] at hc
      obtain ⟨rfl, h1⟩ := hc
      split at h1
      · rename_i fs hu
        simp only [Bool.and_eq_true] at h1
        obtain ⟨h2, h3, h4⟩ := h1
        obtain ⟨i, zz, hi, hz, rfl, hzs⟩ := tyZero_spec h3
        simp only [stp, AnsP_cnd, AnsP_bad] at h
        obtain ⟨h5, h6, h7⟩ := prts_eq (gid := gid) (F := fget fr) (pl := structPlace P fs) h4 h
        exact ⟨_, _, _, _, _, ok_buildStruct hu hi hz (by simpa using h2) h5 (by simpa using h6), within_nil _, within_nil _, h7⟩
      · cases h1
    · cases hc
  | bsl e len sz z ps =>
    simp only [chkI] at hc
    split at hc
    · rename_i t len' ps'
      simp only [Bool.and_eq_true, decide_eq_true_eq] at hc
      obtain ⟨rfl, h0, h1, h2, h3⟩ := hc
      split at h2
      · rename_i e' ht
        simp only [Bool.and_eq_true, decide_eq_true_eq] at h2
        obtain ⟨rfl, h4, h5⟩ := h2
        obtain ⟨i, zz, hi, hz, rfl, hzs⟩ := tyZero_spec h4
        obtain ⟨i', hi', rfl⟩ := tyLen_spec h5
        rw [hi] at hi'; cases hi'
        simp only [stp, AnsP_cnd, AnsP_bad] at h
        obtain ⟨h6, h7, h8⟩ := prts_eq (gid := gid) (F := fget fr) (pl := slicePlace i.size) h3 h
        refine ⟨_, _, _, _, _, ok_buildSlice ht hi hz hzs h0 (by simp only [maxLen]; omega) (fun p hp => ?_) rfl h7, within_nil _, within_nil _, ?_⟩
        · obtain ⟨o, ho⟩ := h6 p hp
          simp only [slicePlace, Option.some.injEq, Prod.mk.injEq] at ho
          exact ho.2.symm
        · have hget : ∀ j : Nat, zz.cells.toList[j]! = zz.cells[j]! := by
            intro j
            simp [getElem!_def]
          have hfun : ((List.range (len * i.size)).map fun j => V.val (zz.cells[j % i.size]!)) = (List.range (len * i.size)).map fun j => V.val (zz.cells.toList[j % i.size]!) := List.map_congr_left fun j _ => by rw [hget]
          rw [hfun]
          exact h8
      · cases h2
    · cases hc
  | call f xs =>
    simp only [chkI] at hc
    split at hc
    · rename_i c
      obtain ⟨cal, args, ats⟩ := c
      simp only at hc
      split at hc
      · rename_i f'
        simp only [Bool.and_eq_true, decide_eq_true_eq] at hc
        obtain ⟨rfl, h1⟩ := hc
        have e1 : args = xs.toArray := by rw [opsEq_eq h1]
        subst e1
        obtain ⟨kk, n1, args0, L0, L1, v, v2, l, rd, cs, pr, hF, hl, hg, h2, h3, h4, h5, h6, h7, h8, h9, h10, hk⟩ := evs_eq (show evs AnsP gid (fget fr) xs _ from h)
        exact ⟨_, _, _, _, _, ok_call hF l hl rfl hg h2 h3 h4 h5 h6 h7 h8, h9, h10, hk⟩
      · cases hc
    · cases hc
  | callv g xs =>
    simp only [chkI] at hc
    split at hc
    · rename_i c
      obtain ⟨cal, args, ats⟩ := c
      simp only at hc
      split at hc
      · rename_i g'
        simp only [Bool.and_eq_true] at hc
        obtain ⟨h0, h1⟩ := hc
        have e0 := opEq_eq h0; subst e0
        have e1 : args = xs.toArray := by rw [opsEq_eq h1]
        subst e1
        simp only [stp, AnsP_cnd, AnsP_bad] at h
        split at h
        · rename_i f caps hgv
          obtain ⟨kk, n1, args0, L0, L1, v, v2, l, rd, cs, pr, hF, hl, hg, h2, h3, h4, h5, h6, h7, h8, h9, h10, hk⟩ := evs_eq h
          exact ⟨_, _, _, _, _, ok_callv hF l hl rfl (fnOf_vr hgv) hg h2 h3 h4 h5 h6 h7 h8, h9, h10, hk⟩
        · exact h.elim
      · cases hc
    · cases hc
  | eqb neg x y =>
    simp only [chkI] at hc
    split at hc
    · rename_i op2 t' x' y' yt
      simp only [Bool.and_eq_true, decide_eq_true_eq] at hc
      obtain ⟨rfl, h2, h3, h4⟩ := hc
      have e1 := opEq_eq h2; have e2 := opEq_eq h3
      subst e1; subst e2
      split at h4
      · rename_i ht
        simp only [stp, AnsP_bad] at h
        split at h
        · rename_i a hx
          split at h
          · rename_i b hy
            have hop := ok_eqBool (P := P) (n := n) (d := d) (ty := ty) (pos := pos) (aft := aft) (gd := gd) (yt := yt) ht (neg := neg) hx hy
            cases neg
            · exact ⟨_, _, _, _, _, hop, within_nil _, within_nil _, h⟩
            · exact ⟨_, _, _, _, _, hop, within_nil _, within_nil _, h⟩
          · exact h.elim
        · exact h.elim
      · cases h4
    · cases hc
  | eqf neg x y =>
    simp only [chkI] at hc
    split at hc
    · rename_i op2 t' x' y' yt
      simp only [Bool.and_eq_true, decide_eq_true_eq] at hc
      obtain ⟨rfl, h2, h3, h4⟩ := hc
      have e1 := opEq_eq h2; have e2 := opEq_eq h3
      subst e1; subst e2
      split at h4
      · rename_i td ht
        simp only [stp, AnsP_bad] at h
        split at h
        · rename_i u hx
          split at h
          · rename_i hy
            split at h
            · rename_i b hu
              have hop := ok_eqFnil (P := P) (n := n) (d := d) (ty := ty) (pos := pos) (aft := aft) (gd := gd) (yt := yt) ht h4 (neg := neg) hx hu hy
              cases neg
              · exact ⟨_, _, _, _, _, hop, within_nil _, within_nil _, h⟩
              · exact ⟨_, _, _, _, _, hop, within_nil _, within_nil _, h⟩
            · exact h.elim
          · exact h.elim
        · exact h.elim
      · cases h4
    · cases hc
  | ifc t x =>
    simp only [chkI] at hc
    split at hc
    · rename_i t' x'
      simp only [Bool.and_eq_true, decide_eq_true_eq] at hc
      obtain ⟨rfl, h2, h3⟩ := hc
      have e1 := opEq_eq h2; subst e1
      split at h3
      · rename_i td ht
        simp only [Bool.not_eq_true'] at h3
        simp only [stp, AnsP_bad] at h
        split at h
        · rename_i u hx; exact ⟨_, _, _, _, _, ok_iface ht h3 hx, within_nil _, within_nil _, h⟩
        · exact h.elim
      · cases h3
    · cases hc
  | asr t z x =>
    simp only [chkI] at hc
    split at hc
    · rename_i x' xt t' ok
      simp only [Bool.and_eq_true, decide_eq_true_eq] at hc
      obtain ⟨rfl, hok, h2, h3, h4⟩ := hc
      subst hok
      have e1 := opEq_eq h2; subst e1
      split at h3
      · rename_i td ht
        simp only [Bool.not_eq_true'] at h3
        split at h4
        · rename_i i hi
          split at h4
          · rename_i l hz
            have e2 := valsEq_eq h4; subst e2
            simp only [stp, AnsP_bad] at h
            split at h
            · rename_i t2 u hx
              by_cases e : t2 = t
              · subst e
                have h := brT_t (by rw [decide_eq_true rfl] at h; exact h)
                exact ⟨_, _, _, _, _, ok_assert_yes (ok := true) ht h3 hx, within_nil _, within_nil _, h⟩
              · have h := brT_f (by rw [decide_eq_false e] at h; exact h)
                exact ⟨_, _, _, _, _, ok_assert_no ht h3 hi hz e hx, within_nil _, within_nil _, h⟩
            · exact h.elim
          · cases h4
        · cases h4
      · cases h3
    · cases hc
  | mmap =>
    simp only [chkI] at hc
    split at hc
    · exact ⟨_, _, _, _, _, ok_makeMap, within_nil _, within_nil _, h⟩
    · cases hc
  | lkp zero ok m ky =>
    simp only [chkI] at hc
    split at hc
    · rename_i mt m' k' ok'
      simp only [Bool.and_eq_true, decide_eq_true_eq] at hc
      obtain ⟨h1, h2, rfl, h3⟩ := hc
      have e1 := opEq_eq h1; have e2 := opEq_eq h2
      subst e1; subst e2
      split at h3
      · rename_i kt et hmt
        simp only [Bool.and_eq_true] at h3
        obtain ⟨h4, h5⟩ := h3
        split at h4
        · rename_i kk hkt
          split at h5
          · rename_i i hi
            split at h5
            · rename_i zv hz
              have e3 := valEq_eq h5; subst e3
              simp only [stp, AnsP_bad] at h
              split at h
              · rename_i b hx
                split at h
                · rename_i es hes
                  split at h
                  · rename_i kd z hy
                    split at h
                    · rename_i r hr
                      have hop := ok_lookup (P := P) (n := n) (d := d) (ty := ty) (pos := pos) (aft := aft) (gd := gd) hmt hkt hi hz (ok := ok) hx hy hr
                      cases ok
                      · exact ⟨_, _, _, _, _, hop, within_one hes, within_nil _, h⟩
                      · exact ⟨_, _, _, _, _, hop, within_one hes, within_nil _, h⟩
                    · exact h.elim
                  · exact h.elim
                · exact h.elim
              · exact h.elim
            · cases h5
          · cases h5
        · cases h4
      · cases h3
    · cases hc
  | mup m ky v =>
    simp only [chkI] at hc
    split at hc
    · rename_i mt m' k' v'
      simp only [Bool.and_eq_true] at hc
      obtain ⟨h1, h2, h3, h4⟩ := hc
      have e1 := opEq_eq h1; have e2 := opEq_eq h2; have e3 := opEq_eq h3
      subst e1; subst e2; subst e3
      split at h4
      · rename_i kt et hmt
        split at h4
        · rename_i kk hkt
          simp only [stp, AnsP_bad] at h
          split at h
          · rename_i b hx
            split at h
            · rename_i es hes
              split at h
              · rename_i kd z hy
                split at h
                · rename_i u hu
                  split at h
                  · rename_i es' he; exact ⟨_, _, _, _, _, ok_mapUpdate hmt hkt hx hy hu he, within_nil _, within_one hes, h⟩
                  · exact h.elim
                · exact h.elim
              · exact h.elim
            · exact h.elim
          · exact h.elim
        · cases h4
      · cases h4
    · rename_i mt m' k' v'
      simp only [Bool.and_eq_true] at hc
      obtain ⟨h1, h2, h3, h4⟩ := hc
      have e1 := opEq_eq h1; have e2 := opEq_eq h2; have e3 := opEq_eq h3
      subst e1; subst e2; subst e3
      split at h4
      · rename_i kt et hmt
        split at h4
        · rename_i kk hkt
          simp only [stp, AnsP_bad] at h
          split at h
          · rename_i b hx
            split at h
            · rename_i es hes
              split at h
              · rename_i kd z hy
                split at h
                · rename_i u hu
                  split at h
                  · rename_i es' he; exact ⟨_, _, _, _, _, ok_mapInsert hmt hkt hx hy hu he, within_nil _, within_one hes, h⟩
                  · exact h.elim
                · exact h.elim
              · exact h.elim
            · exact h.elim
          · exact h.elim
        · cases h4
      · cases h4
    · cases hc
  | lenm x =>
    simp only [chkI] at hc
    split at hc
    · rename_i c
      obtain ⟨cal, args, ats⟩ := c
      simp only at hc
      split at hc
      · simp only [Bool.and_eq_true] at hc
        obtain ⟨h1, h2⟩ := hc
        have e1 : args = #[x] := by
          have e : args.toList = [x] := (opsEq_eq h1).symm
          exact Array.toList_inj.1 (by simpa using e)
        subst e1
        split at h2
        · rename_i t hat
          have e2 : ats = #[t] := Array.toList_inj.1 (by simpa using hat)
          subst e2
          split at h2
          · rename_i kt et ht
            simp only [stp, AnsP_bad] at h
            split at h
            · rename_i b hx
              split at h
              · rename_i es hes; exact ⟨_, _, _, _, _, ok_lenMap ht hx, within_one hes, within_nil _, h⟩
              · exact h.elim
            · exact h.elim
          · cases h2
        · cases h2
      · cases hc
    · cases hc
  | cpy z x y =>
    simp only [chkI] at hc
    split at hc
    · rename_i c
      obtain ⟨cal, args, ats⟩ := c
      simp only at hc
      split at hc
      · simp only [Bool.and_eq_true] at hc
        obtain ⟨h1, h2⟩ := hc
        have e1 : args = #[x, y] := by
          have e : args.toList = [x, y] := (opsEq_eq h1).symm
          exact Array.toList_inj.1 (by simpa using e)
        subst e1
        split at h2
        · rename_i dT sT hat
          have e2 : ats = #[dT, sT] := Array.toList_inj.1 (by simpa using hat)
          subst e2
          split at h2
          · rename_i el hu
            obtain ⟨i, hi, hs⟩ := tyLen_spec h2
            simp only [stp, AnsP_cnd, AnsP_bad] at h
            split at h
            · rename_i b o len hx
              split at h
              · split at h
                · rename_i e cs hb
                  split at h
                  · rename_i b2 o2 m hy
                    split at h
                    · rename_i k2 hk2
                      obtain ⟨c1, c2, c3, c4, h⟩ := h
                      exact ⟨_, _, _, _, _, ok_copy hu hi hs hx hy c1 c2 c3 c4, within_one hk2, within_one hb, h⟩
                    · exact h.elim
                  · exact h.elim
                · exact h.elim
              · exact h.elim
            · exact h.elim
          · cases h2
        · cases h2
      · cases hc
    · cases hc

/-! ### Regions and code -/
variable (P)
def slotOf (ops : Array Oper) (j : Nat) : Option Nat := (ops[j]?).bind (·.dst)
def chkJ (N : Nat) (ops : Array Oper) (o : Oper) (j : J) : Bool :=
  decide (o.dst = j.d) && ((match o.dst with | some d => decide (d < N) | none => true) && ((match o.guard, j.g with
    | none, none => true
    | some (i, b), some (s, b') => decide (slotOf ops i = some s) && decide (b = b')
    | _, _ => false) && chkI P o j.i))
def chkJs (N : Nat) (ops : Array Oper) : List Oper → List J → Bool
  | [], [] => true
  | o :: os, j :: js => chkJ P N ops o j && chkJs N ops os js
  | _, _ => false
/-- What must come before what; what else shares no slots. -/
def chkD (ops : Array Oper) (anc : List (List Nat)) : Bool :=
  decide (ops.toList.length = anc.length) && ((List.range ops.toList.length).all fun i => match ops[i]?, anc[i]? with
    | some o, some an => (o.after.toList.all fun e => !Region.binds .any e || decide (e.on < i)) &&
        ((an.all fun x => o.after.toList.any fun e => Region.binds .any e && (decide (e.on = x) || ((anc[e.on]?).getD []).contains x)) &&
        (List.range i).all fun j => an.contains j || (match ops[j]? with | some o' => o'.apart ops o | none => false))
    | _, _ => false)
def chk (N : Nat) : Code → C → Bool
  | .skip, .skip => true
  | .region _ ops d, .reg an _ js => chkJs P N ops ops.toList js && (match an with
    | none => !d
    | some an => d && (P.follows .mixedOrders && chkD ops (ancOf an)))
  | .seq a b, .seq a' b' => chk N a a' && chk N b b'
  | .cond c a b, .cond c' a' b' => opEq c' c && (chk N a a' && chk N b b')
  | .block i c, .block i' c' => decide (i = i') && chk N c c'
  | .loop c, .loop _ c' => chk N c c'
  | .exit i, .exit i' => decide (i = i')
  | .ret, .ret => true
  | _, _ => false
variable {P}

theorem RT.mono {N : Nat} {ops : Array Oper} {l : List Oper} {fr : Fr} {L : HL} {n : Nat} {K K' : List Rec → Fr → HL → Nat → Prop} (h : RT P gid N ops l fr L n K) (hk : ∀ r fr L n, K r fr L n → K' r fr L n) : RT P gid N ops l fr L n K' := by
  obtain ⟨r, fr', L', n', h1, h2⟩ := h
  exact ⟨r, fr', L', n', h1, hk _ _ _ _ h2⟩

theorem goff_slot {ops : Array Oper} {F : FF} {i s : Nat} {b : Bool} (hs : slotOf ops i = some s) (hv : F s = .val (.bool (!b)) ∨ F s = undV) : goff ops F i b := ⟨s, hs, hv⟩
theorem gval_slot {ops : Array Oper} {F : FF} {i s : Nat} {b : Bool} (hs : slotOf ops i = some s) (hv : F s = .val (.bool b)) : gval ops F i = some b := by
  unfold slotOf at hs
  simp [gval, hs, hv]

theorem inDst_of {N : Nat} {d : Option Tmp} (h : (match d with | some d => decide (d < N) | none => true) = true) : inDst N d := by
  cases d <;> simp_all [inDst]

def kOf (r : Rec) : HL × HL × HL := (r.rd, r.cs, r.pr)
theorem runJ_sound {N : Nat} {ops : Array Oper} : ∀ {js : List J} {os : List Oper} {fr : Fr} {L : HL} {n : Nat} {acc : Keys} {k : Keys → Fr → HL → Nat → Prop}, chkJs P N ops os js = true → runJ AnsP gid (CallK P gid) js fr L n acc k → RT P gid N ops os fr L n fun recs fr L n => k ((recs.map kOf).reverse ++ acc) fr L n
  | [], [], fr, L, n, acc, k, _, h => RT.nil h
  | ⟨d, g, i⟩ :: js, o :: os, fr, L, n, acc, k, hc, h => by
    simp only [chkJs, chkJ, Bool.and_eq_true, decide_eq_true_eq] at hc
    obtain ⟨⟨hd, hN, hg, hi⟩, hcs⟩ := hc
    have hN' := inDst_of hN
    subst hd
    have go : ∀ fr', (o.guard = none ∨ ∃ j b, o.guard = some (j, b) ∧ gval ops (fget fr') j = some b) →
        stp AnsP gid (CallK P gid) fr' L n (fun v rd cs pr n' => delsK cs L fun L' => appK AnsP pr L' fun L' => AnsP.frcR v fun v => setK fr' o.dst v fun fr => AnsP.frcN n' fun n' => runJ AnsP gid (CallK P gid) js fr L' n' ((rd, cs, pr) :: acc) k) i → RT P gid N ops (o :: os) fr' L n fun recs fr L n => k ((recs.map kOf).reverse ++ acc) fr L n := by
      intro fr' hgd hst
      obtain ⟨v, rd, cs, pr, n', hop, h1, h2, h3⟩ := stp_sound hi hst
      refine RT.step hop hgd hN' h1 h2 ?_
      have h5 := appK_eq (delsK_eq h3)
      have h4 := setK_eq (k := fun fr => runJ AnsP gid (CallK P gid) js fr (pr ++ dels cs L) n' ((rd, cs, pr) :: acc) k) h5
      exact RT.mono (runJ_sound hcs h4) fun r fr L n hk => by simpa [kOf] using hk
    simp only [runJ, AnsP_bad] at h
    cases g with
    | none =>
      cases hgd : o.guard with
      | some x => rw [hgd] at hg; simp at hg
      | none => exact go fr (.inl hgd) h
    | some sp =>
      obtain ⟨s, p⟩ := sp
      cases hgd : o.guard with
      | none => rw [hgd] at hg; simp at hg
      | some x =>
        obtain ⟨j, b⟩ := x
        rw [hgd] at hg
        simp only [Bool.and_eq_true, decide_eq_true_eq] at hg
        obtain ⟨hs, rfl⟩ := hg
        simp only at h
        split at h
        · rename_i t ht
          refine RT.split ht (fun e => ?_) (fun e => ?_)
          · subst e
            have h := brT_t h
            have hgv : gval ops (fget ((s, .val (.bool true)) :: fr)) j = some true := gval_slot hs (by simp [fget])
            cases b
            · exact RT.skip hgd (goff_slot hs (.inl (by simp [fget]))) hN' (RT.mono (runJ_sound hcs (setK_eq h)) fun r fr L n hk => by simpa [kOf, keysOf] using hk)
            · exact go _ (.inr ⟨j, true, hgd, hgv⟩) h
          · subst e
            have h := brT_f h
            have hgv : gval ops (fget ((s, .val (.bool false)) :: fr)) j = some false := gval_slot hs (by simp [fget])
            cases b
            · exact go _ (.inr ⟨j, false, hgd, hgv⟩) h
            · exact RT.skip hgd (goff_slot hs (.inl (by simp [fget]))) hN' (RT.mono (runJ_sound hcs (setK_eq h)) fun r fr L n hk => by simpa [kOf, keysOf] using hk)
        · rename_i hu
          exact RT.skip hgd (goff_slot hs (.inr hu)) hN' (RT.mono (runJ_sound hcs (setK_eq h)) fun r fr L n hk => by simpa [kOf, keysOf] using hk)
        · exact h.elim
  | [], _ :: _, _, _, _, _, _, hc, _ => by simp [chkJs] at hc
  | _ :: _, [], _, _, _, _, _, hc, _ => by simp [chkJs] at hc


/-! ### What leaves each other alone -/
theorem apartAll_spec : ∀ {ks : Keys} {as : List (List Nat)}, apartAll as ks = true → ∀ p a k, as[p]? = some a → ks[p]? = some k → ∀ j, j + p + 1 < ks.length → j ∈ a → ∃ k', ks[ks.length - 1 - j]? = some k' ∧ apartK k' k = true
  | [], as, _, p, a, k, _, h, _, _, _ => by simp at h
  | _ :: _, [], h, _, _, _, _, _, _, _, _ => by simp [apartAll] at h
  | k0 :: ks, a0 :: as, h, 0, a, k, ha, hk, j, hj, hm => by
    simp only [apartAll, Bool.and_eq_true] at h
    simp at ha hk
    subst ha; subst hk
    have hj' : j < ks.length := by simp at hj; omega
    have h2 := List.all_eq_true.1 h.1 j hm
    have h3 : ks.length - 1 - j < ks.length := by omega
    have h4 : (k0 :: ks).length - 1 - j = ks.length - 1 - j + 1 := by simp; omega
    rw [h4, List.getElem?_cons_succ]
    rw [List.getElem?_eq_getElem h3] at h2 ⊢
    exact ⟨_, rfl, by simpa using h2⟩
  | k0 :: ks, a0 :: as, h, p + 1, a, k, ha, hk, j, hj, hm => by
    simp only [apartAll, Bool.and_eq_true] at h
    simp at ha hk
    have hj' : j + p + 1 < ks.length := by simp at hj; omega
    obtain ⟨k', h1, h2⟩ := apartAll_spec h.2 p a k ha hk j hj' hm
    refine ⟨k', ?_, h2⟩
    have h4 : (k0 :: ks).length - 1 - j = ks.length - 1 - j + 1 := by simp; omega
    rw [h4, List.getElem?_cons_succ]
    exact h1

theorem lk_keys : ∀ {l : HL} {b : Nat}, lk l b ≠ none → b ∈ keysOf l
  | [], b, h => by simp [lk] at h
  | (c, k) :: l, b, h => by
    simp only [lk] at h
    simp only [keysOf, List.map_cons, List.mem_cons]
    split at h
    · rename_i e; exact .inl e
    · exact .inr (lk_keys h)
theorem disj_spec {a b : List Nat} (h : disj a b = true) : ∀ x ∈ a, x ∉ b := by
  intro x hx
  have := List.all_eq_true.1 h x hx
  simpa using this
theorem lk_none_of {l : HL} {b : Nat} (h : b ∉ keysOf l) : lk l b = none := by
  cases hl : lk l b with
  | none => rfl
  | some k => exact absurd (lk_keys (by simp [hl])) h
theorem chg_mem {r : Rec} {b : Nat} (h : Chg r b) : b ∈ chgK (kOf r) := by
  unfold chgK kOf
  rw [List.mem_filter]
  refine ⟨by rw [List.mem_append]; exact h.1.imp lk_keys lk_keys, ?_⟩
  cases h1 : lk r.cs b with
  | none => rfl
  | some x =>
    cases h2 : lk r.pr b with
    | none => rfl
    | some y =>
      show (!blkSame x y) = true
      cases hs : blkSame x y with
      | false => rfl
      | true => exact absurd ⟨x, h1, by rw [h2, blkSame_eq hs]⟩ h.2
theorem indep_of {ops : Array Oper} {x y : Item} (h1 : x.o.apart ops y.o = true) (h2 : apartK (kOf x.r) (kOf y.r) = true) : Indep ops x y := by
  simp only [apartK, Bool.or_eq_true] at h2
  rcases h2 with h2 | h2
  · simp only [kOf, Bool.and_eq_true] at h2
    obtain ⟨ha, hb, hc⟩ := h2
    have ha := disj_spec ha
    have hb := disj_spec hb
    have hc := disj_spec hc
    simp only [List.mem_append] at ha hb hc
    refine ⟨h1, fun b h => ?_, fun b h => ?_⟩
    · have hm : b ∈ keysOf x.r.cs ∨ b ∈ keysOf x.r.pr := h.1.imp lk_keys lk_keys
      have h3 := ha b hm
      exact ⟨lk_none_of fun h => h3 (.inl h), lk_none_of fun h => h3 (.inr h), lk_none_of (hb b hm)⟩
    · have hm : b ∈ keysOf y.r.cs ∨ b ∈ keysOf y.r.pr := h.1.imp lk_keys lk_keys
      exact ⟨lk_none_of fun h => ha b (.inl h) hm, lk_none_of fun h => ha b (.inr h) hm, lk_none_of (hc b hm)⟩
  · simp only [Bool.and_eq_true] at h2
    have ha := disj_spec h2.1
    have hb := disj_spec h2.2
    simp only [tchK, kOf, List.mem_append, not_or] at ha hb
    refine ⟨h1, fun b h => ?_, fun b h => ?_⟩
    · have h3 := ha b (chg_mem h)
      exact ⟨lk_none_of h3.1.2, lk_none_of h3.2, lk_none_of h3.1.1⟩
    · have h3 := hb b (chg_mem h)
      exact ⟨lk_none_of h3.1.2, lk_none_of h3.2, lk_none_of h3.1.1⟩

theorem itemsOf_get : ∀ {l : List Oper} {rs : List Rec} {j p : Nat} {x : Item}, (itemsOf j l rs)[p]? = some x → x.i = j + p ∧ l[p]? = some x.o ∧ rs[p]? = some x.r
  | [], _, _, _, _, h => by simp [itemsOf] at h
  | _ :: _, [], _, _, _, h => by simp [itemsOf] at h
  | o :: l, r :: rs, j, 0, x, h => by simp [itemsOf] at h; subst h; simp
  | o :: l, r :: rs, j, p + 1, x, h => by
    simp only [itemsOf, List.getElem?_cons_succ] at h
    obtain ⟨h1, h2, h3⟩ := itemsOf_get h
    exact ⟨by omega, by simpa using h2, by simpa using h3⟩
theorem chkJs_dst {N : Nat} {ops : Array Oper} : ∀ {js : List J} {os : List Oper}, chkJs P N ops os js = true → (os.all fun o => match o.dst with | some d => decide (d < N) | none => true) = true
  | [], [], _ => rfl
  | j :: js, o :: os, hc => by
    simp only [chkJs, chkJ, Bool.and_eq_true] at hc
    simp only [List.all_cons, Bool.and_eq_true]
    exact ⟨hc.1.2.1, chkJs_dst hc.2⟩
  | [], _ :: _, hc => by simp [chkJs] at hc
  | _ :: _, [], hc => by simp [chkJs] at hc

theorem hN_of {l : List Oper} {N : Nat} (hN : (l.all fun o => match o.dst with | some d => decide (d < N) | none => true) = true) (j d : Nat) (hj : (l.toArray[j]?).bind (·.dst) = some d) : d < N := by
  cases ho : l[j]? with
  | none => simp [ho] at hj
  | some o =>
    have hm := List.all_eq_true.1 hN o (List.mem_of_getElem? ho)
    simp [ho] at hj
    rw [hj] at hm
    simpa using hm
theorem TL.regionK {N kk : Nat} {id : Nat} {l : List Oper} {fr : Fr} {L : HL} {n : Nat} {Q : Exit → Fr → HL → Nat → Prop} (ks : List Nat) (hN : (l.all fun o => match o.dst with | some d => decide (d < N) | none => true) = true)
    (h : RT P gid N l.toArray l fr L n fun _ fr' L' n' => Q .normal (Abs.keep ks fr') L' n') : TL P gid N kk (.region id l.toArray false) fr L n Q := by
  obtain ⟨recs, fr', L', n', hrun, hq⟩ := h
  intro E ρ a w hk hs
  exact wp_region_list (Run.sound (hN_of hN) (by simpa using hrun) hs fun ρ' a' w' hs' => ⟨ρ', fget (Abs.keep ks fr'), lk L', n', ⟨hs'.w, hs'.f.weak (fget_keep ks fr'), hs'.fresh, hs'.kn⟩, _, _, rfl, rfl, hq⟩)
theorem TL.regionD {N kk : Nat} {id : Nat} {l : List Oper} {fr : Fr} {L : HL} {n : Nat} {Q : Exit → Fr → HL → Nat → Prop} {nan : List (List Nat)} (ks : List Nat) (hm : P.follows .mixedOrders = true) (hd : chkD l.toArray (ancOf nan) = true) (hN : (l.all fun o => match o.dst with | some d => decide (d < N) | none => true) = true)
    (h : RT P gid N l.toArray l fr L n fun recs fr' L' n' => apartAll nan.reverse (recs.map kOf).reverse = true ∧ Q .normal (Abs.keep ks fr') L' n') : TL P gid N kk (.region id l.toArray true) fr L n Q := by
  obtain ⟨recs, fr', L', n', hrun, hap, hq⟩ := h
  intro E ρ a w hk hs
  obtain ⟨anc, hanc⟩ : ∃ anc, anc = ancOf nan := ⟨_, rfl⟩
  have hnl : anc.length = nan.length := by rw [hanc, ancOf_len]
  rw [← hanc] at hd
  simp only [chkD, Bool.and_eq_true, decide_eq_true_eq] at hd
  obtain ⟨hlen, hall⟩ := hd
  have hlen : l.length = anc.length := hlen
  have hlr := (hrun.todo 0).2.1
  have at_ : ∀ i o, l[i]? = some o → ∃ an, anc[i]? = some an ∧ (∀ e ∈ o.after.toList, Region.binds .any e = true → e.on < i) ∧ (∀ x ∈ an, ∃ e ∈ o.after.toList, Region.binds .any e = true ∧ (e.on = x ∨ x ∈ (anc[e.on]?).getD [])) ∧
      ∀ j, j < i → j ∈ an ∨ ∃ o', l[j]? = some o' ∧ o'.apart l.toArray o = true := by
    intro i o ho
    have hi : i < l.length := (List.getElem?_eq_some_iff.1 ho).1
    have h1 := List.all_eq_true.1 hall i (List.mem_range.2 (by simpa using hi))
    have hi2 : i < anc.length := by omega
    rw [List.getElem?_eq_getElem hi2] at h1 ⊢
    simp only [List.getElem?_toArray, ho, Bool.and_eq_true] at h1
    obtain ⟨h2, h3, h4⟩ := h1
    refine ⟨_, rfl, fun e he hb => ?_, fun x hx => ?_, fun j hj => ?_⟩
    · have := List.all_eq_true.1 h2 e he
      simpa [hb] using this
    · have := List.all_eq_true.1 h3 x hx
      obtain ⟨e, he, h5⟩ := List.any_eq_true.1 this
      simp only [Bool.and_eq_true, Bool.or_eq_true, decide_eq_true_eq, List.contains_iff_mem] at h5
      exact ⟨e, he, h5.1, h5.2⟩
    · have := List.all_eq_true.1 h4 j (List.mem_range.2 hj)
      simp only [Bool.or_eq_true, List.contains_iff_mem] at this
      refine this.imp (fun h => h) fun h5 => ?_
      have hj2 : j < l.length := by omega
      rw [List.getElem?_eq_getElem hj2] at h5 ⊢
      exact ⟨_, rfl, h5⟩
  refine wp_any (anc := fun i => (anc[i]?).getD []) hm (fun i o ho => ?_) (hN_of hN) (by simpa using hrun) ?_ hs fun ρ' a' w' hs' => ⟨ρ', fget (Abs.keep ks fr'), lk L', n', ⟨hs'.w, hs'.f.weak (fget_keep ks fr'), hs'.fresh, hs'.kn⟩, _, _, rfl, rfl, hq⟩
  · obtain ⟨an, h1, h2, h3, h4⟩ := at_ i o (by simpa using ho)
    refine ⟨fun x hx => ?_, fun e he hb => h2 e (by simpa using he) hb⟩
    simp only [h1, Option.getD_some] at hx
    obtain ⟨e, he, hb, h5⟩ := h3 x hx
    exact ⟨e, by simpa using he, hb, h5⟩
  · rw [List.pairwise_iff_getElem]
    intro i j hi hj hij
    have gi := itemsOf_get (List.getElem?_eq_getElem hi)
    have gj := itemsOf_get (List.getElem?_eq_getElem hj)
    generalize (itemsOf 0 l.toArray.toList recs)[i] = x at *
    generalize (itemsOf 0 l.toArray.toList recs)[j] = y at *
    simp only [Nat.zero_add] at gi gj
    obtain ⟨rfl, hxo, hxr⟩ := gi
    obtain ⟨rfl, hyo, hyr⟩ := gj
    obtain ⟨an, h1, _, _, h4⟩ := at_ y.i y.o hyo
    simp only [h1, Option.getD_some]
    rcases h4 x.i hij with h5 | ⟨o', h5, h6⟩
    · exact .inl h5
    · rw [show l[x.i]? = some x.o from hxo] at h5
      cases h5
      have hyl : y.i < recs.length := (List.getElem?_eq_some_iff.1 hyr).1
      have hyl2 : y.i < anc.length := (List.getElem?_eq_some_iff.1 h1).1
      have hla : anc.length = recs.length := by omega
      have h1' := h1
      rw [hanc] at h1'
      obtain ⟨nn, hnn, rfl⟩ := ancOf_get h1'
      by_cases hxn : x.i ∈ nn
      · obtain ⟨k', h7, h8⟩ := apartAll_spec hap (recs.length - 1 - y.i) nn (kOf y.r) (by rw [List.getElem?_reverse (by omega), ← hnn]; congr 1; omega) (by rw [List.getElem?_reverse (by simp; omega)]; simp only [List.length_map, List.getElem?_map]; rw [show recs.length - 1 - (recs.length - 1 - y.i) = y.i by omega, hyr]; rfl) x.i (by simp; omega) hxn
        right
        rw [List.getElem?_reverse (by simp; omega)] at h7
        simp only [List.length_map, List.length_reverse, List.getElem?_map] at h7
        rw [show recs.length - 1 - (recs.length - 1 - x.i) = x.i by omega, hxr] at h7
        cases h7
        exact indep_of h6 h8
      · left
        rw [List.mem_filter]
        exact ⟨List.mem_range.2 hij, by simpa using hxn⟩

theorem wpE_sound {N kk : Nat} : ∀ {c' : C} {c : Code} {fr : Fr} {L : HL} {n : Nat} {Q : Exit → Fr → HL → Nat → Prop}, chk P N c c' = true → wpE P gid N kk c' fr L n Q → TL P gid N kk c fr L n Q
  | .skip, c, fr, L, n, Q, hc, h => by
    cases c <;> simp [chk] at hc
    exact TL.skip h
  | .exit i, c, fr, L, n, Q, hc, h => by
    cases c <;> simp [chk] at hc
    subst hc
    exact TL.exit h
  | .ret, c, fr, L, n, Q, hc, h => by
    cases c <;> simp [chk] at hc
    exact TL.ret h
  | .reg an ks js, c, fr, L, n, Q, hc, h => by
    cases c <;> simp only [chk, Bool.false_eq_true] at hc
    rename_i id ops d'
    simp only [Bool.and_eq_true] at hc
    obtain ⟨hjs, hd⟩ := hc
    obtain ⟨l⟩ := ops
    cases an with
    | none =>
      simp only [Bool.not_eq_true'] at hd
      subst hd
      simp only [wpE, wpG] at h
      exact TL.regionK ks (chkJs_dst hjs) (RT.mono (runJ_sound hjs h) fun r fr L n hk => keepK_eq hk)
    | some an =>
      simp only [Bool.and_eq_true] at hd
      obtain ⟨rfl, hm, hd⟩ := hd
      simp only [wpE, wpG, AnsP_cnd] at h
      exact TL.regionD ks hm hd (chkJs_dst hjs) (RT.mono (runJ_sound hjs h) fun r fr L n hk => ⟨by simpa using hk.1, keepK_eq hk.2⟩)
  | .seq a b, c, fr, L, n, Q, hc, h => by
    cases c <;> simp only [chk, Bool.false_eq_true] at hc
    rename_i x y
    simp only [Bool.and_eq_true] at hc
    simp only [wpE, wpG, AnsP_bad] at h
    refine TL.seq (TL.mono (wpE_sound hc.1 h) fun e fr L n hq => ?_)
    cases e with
    | normal => exact wpE_sound hc.2 hq
    | _ => exact hq
  | .cond o a b, c, fr, L, n, Q, hc, h => by
    cases c <;> simp only [chk, Bool.false_eq_true] at hc
    rename_i o' x y
    simp only [Bool.and_eq_true] at hc
    obtain ⟨h0, h1, h2⟩ := hc
    have e := opEq_eq h0; subst e
    simp only [wpE, wpG, AnsP_bad] at h
    split at h
    · rename_i t ht
      refine TL.cond ht (fun e => ?_) (fun e => ?_)
      · subst e; exact wpE_sound h1 h
      · subst e; exact wpE_sound h2 h
    · exact h.elim
  | .block i b, c, fr, L, n, Q, hc, h => by
    cases c <;> simp only [chk, Bool.false_eq_true] at hc
    rename_i i' x
    simp only [Bool.and_eq_true, decide_eq_true_eq] at hc
    obtain ⟨rfl, h1⟩ := hc
    simp only [wpE, wpG, AnsP_bad] at h
    refine TL.block (TL.mono (wpE_sound h1 h) fun e fr L n hq => ?_)
    cases e with
    | exit id' =>
      simp only [blockL] at hq ⊢
      split
      · rename_i e; rw [if_pos e] at hq; exact hq
      · rename_i e; rw [if_neg e] at hq; exact hq
    | _ => exact hq
  | .loop ks b, c, fr, L, n, Q, hc, h => by
    cases c <;> simp only [chk, Bool.false_eq_true] at hc
    rename_i x
    simp only [wpE, wpG, AnsP_bad] at h
    have h' := keepK_eq h
    refine TL.keep ks ?_
    intro E ρ a w hk hs
    refine wp_loop_X fun X hX => ?_
    refine h' (fun fr L n => ∀ ρ a w, St P gid N E ρ (fget fr) (lk L) n a w → X a w) (fun fr L n hr ρ a w hs => ?_) (fun fr L n fr2 L2 n2 hw hx ρ a w hs => ?_) ρ a w hs
    · refine hX a w (wp_mono (wpE_sound hc hr E ρ a w hk hs) fun e a' w' ⟨ρ', F', H', n', hst, fr', L', hF, hH, hq⟩ => ?_)
      subst hF; subst hH
      cases e with
      | normal =>
        have h2 := keepK_eq hq
        exact h2 ρ' a' w' ⟨hst.w, hst.f.weak (fget_keep ks fr'), hst.fresh, hst.kn⟩
      | _ => exact ⟨ρ', _, _, n', hst, fr', L', rfl, rfl, hq⟩
    · obtain ⟨ρ2, hs2⟩ := hw E ρ a w hk hs
      exact hx ρ2 a w hs2
end
end Go.Abs
