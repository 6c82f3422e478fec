/- The abstract logic, part 8: more operations: make, equal structs, strings. -/
import Derived.Test.YtfeokfaccaenhaaDoorA7
import Derived.Laws.StructEq
set_option linter.unusedVariables false
set_option linter.unusedSimpArgs false
namespace Go.Abs
section
variable {P : Program} {gid : Nat → Option Nat}

/-! ### Structs of whole numbers, held against one another -/
def kints : List V → Option (List (IntKind × Int))
  | [] => some []
  | .val (.int k a) :: r => match kints r with
    | some l => some ((k, a) :: l)
    | none => none
  | _ => none
theorem kints_vr {ρ : Env} : ∀ {cs : List V} {l : List (IntKind × Int)} {vs : List Value}, kints cs = some l → VrL ρ cs vs → vs = l.map fun p => Value.int p.1 p.2
  | [], l, vs, h, hv => by
    simp [kints] at h; subst h
    cases vs with
    | nil => rfl
    | cons _ _ => simp only [VrL] at hv
  | .val (.int k a) :: r, l, vs, h, hv => by
    simp only [kints] at h
    split at h
    · rename_i l' hl
      cases h
      cases vs with
      | nil => simp only [VrL] at hv
      | cons v vs =>
        simp only [VrL, Vr] at hv
        rw [hv.1, kints_vr hl hv.2]
        rfl
    · cases h
  | .val (.bool _) :: _, _, _, h, _ | .val (.float _ _) :: _, _, _, h, _ | .val (.complex _ _ _) :: _, _, _, h, _ | .val (.string _) :: _, _, _, h, _ | .val (.pointer _) :: _, _, _, h, _
  | .val (.slice _ _ _) :: _, _, _, h, _ | .val (.map _) :: _, _, _, h, _ | .val (.chan _) :: _, _, _, h, _ | .val (.func _ _ _) :: _, _, _, h, _ | .val .nilFunc :: _, _, _, h, _
  | .val (.iface _ _) :: _, _, _, h, _ | .val .nilIface :: _, _, _, h, _ | .val (.agg _) :: _, _, _, h, _ | .val (.tuple _) :: _, _, _, h, _
  | .ptr _ _ :: _, _, _, h, _ | .sl _ _ _ :: _, _, _, h, _ | .mp _ :: _, _, _, h, _ | .fn _ _ :: _, _, _, h, _ | .agg _ :: _, _, _, h, _ | .tup _ :: _, _, _, h, _ | .any :: _, _, _, h, _ => by simp [kints] at h

/-- Are the fields whole numbers, one cell each, in order? -/
def intFields (P : Program) : Nat → List Field → Bool
  | _, [] => true
  | o, f :: fs => (f.name != "_") && (decide (f.offset = o) && ((match P.underlying f.type with | some (.int _) => true | _ => false) && intFields P (o + 1) fs))

theorem run_eqFields_ints (d : Nat) (w : World) : ∀ (fs : List Field) (o : Nat) (la lb : List (IntKind × Int)) (xs ys : Array Value), intFields P o fs = true → fs.length = la.length → la.map (·.1) = lb.map (·.1) →
    xs.toList.drop o = la.map (fun p => Value.int p.1 p.2) → ys.toList.drop o = lb.map (fun p => Value.int p.1 p.2) → (Op.eqFields (d + 1) xs ys fs).run P w = .ok (decide (la.map (·.2) = lb.map (·.2))) w
  | [], o, la, lb, xs, ys, _, hl, hk, _, _ => by
    have : la = [] := List.eq_nil_of_length_eq_zero (by simpa using hl.symm)
    subst this
    have : lb = [] := by cases lb <;> simp at hk ⊢
    subst this
    simp [Op.eqFields]
  | f :: fs, o, [], lb, xs, ys, _, hl, _, _, _ => by simp at hl
  | f :: fs, o, (k, a) :: la, [], xs, ys, _, _, hk, _, _ => by simp at hk
  | f :: fs, o, (k, a) :: la, (k', b) :: lb, xs, ys, hi, hl, hk, hx, hy => by
    simp only [intFields, Bool.and_eq_true, decide_eq_true_eq] at hi
    obtain ⟨hn, hof, hu, hr⟩ := hi
    simp only [List.map_cons, List.cons.injEq] at hk
    obtain ⟨rfl, hk⟩ := hk
    simp only [List.map_cons] at hx hy
    have hx0 : xs[o]? = some (.int k a) := by
      have := congrArg (·[0]?) hx
      simpa using this
    have hy0 : ys[o]? = some (.int k b) := by
      have := congrArg (·[0]?) hy
      simpa using this
    have hx1 : xs.toList.drop (o + 1) = la.map (fun p => Value.int p.1 p.2) := by
      have := congrArg List.tail hx
      simpa [List.tail_drop] using this
    have hy1 : ys.toList.drop (o + 1) = lb.map (fun p => Value.int p.1 p.2) := by
      have := congrArg List.tail hy
      simpa [List.tail_drop] using this
    have hn' : f.name ≠ "_" := by simpa using hn
    split at hu
    · rename_i kk hund
      have hpx : (part f.type xs f.offset).run P w = .ok (.int k a) w := by
        simp only [part, Sem.run_bind, run_isAgg hund, Result.andThen_ok, aggD, Bool.false_eq_true, if_false, hof, hx0, Sem.run_pure]
      have hpy : (part f.type ys f.offset).run P w = .ok (.int k b) w := by
        simp only [part, Sem.run_bind, run_isAgg hund, Result.andThen_ok, aggD, Bool.false_eq_true, if_false, hof, hy0, Sem.run_pure]
      have he : (Op.equalIn (d + 1) f.type (.int k a) (.int k b)).run P w = .ok (a == b) w := by
        simp [Op.equalIn, run_underlying hund]
      simp only [Op.eqFields, if_pos hn', Sem.run_bind, hpx, hpy, he, Result.andThen_ok]
      by_cases e : a = b
      · subst e
        have ih := run_eqFields_ints d w fs (o + 1) la lb xs ys hr (by simpa using hl) hk hx1 hy1
        simp [ih]
      · simp [e]
    · cases hu

theorem ok_eqStruct {F : FF} {n : Nat} {dd : Option Tmp} {ty : TypeId} {pos : String} {aft : Array Edge} {gd : Option (Nat × Bool)} {t yt : TypeId} {neg : Bool} {x y : Operand} {cs ds : List V} {la lb : List (IntKind × Int)} {fs : Array Field}
    (hx : ev gid F x = .agg cs) (hy : ev gid F y = .agg ds) (ha : kints cs = some la) (hb : kints ds = some lb) (hk : la.map (·.1) = lb.map (·.1))
    (hu : P.underlying t = some (.struct fs)) (hfi : intFields P 0 fs.toList = true) (hl : fs.size = la.length) (hp : P.stoodInHeld t = false) (hg : P.eqGuardType P.depth t = false) :
    OpOK P gid ⟨dd, .binOp (if neg then .neq else .eql) t x y yt, ty, pos, aft, gd⟩ F [] [] [] n n (.val (.bool (if neg then !(decide (la.map (·.2) = lb.map (·.2))) else decide (la.map (·.2) = lb.map (·.2))))) :=
  OpOK.pure fun E ρ H w a h1 h3 _ => by
    have h4 := h3 x (by simp [Op.operands])
    have h5 := h3 y (by simp [Op.operands])
    rw [hx] at h4; rw [hy] at h5
    simp only [Vr] at h4 h5
    obtain ⟨us, he, hus⟩ := h4
    obtain ⟨vs, he', hvs⟩ := h5
    have e1 := kints_vr ha hus
    have e2 := kints_vr hb hvs
    have hf : P.fieldsOf t = fs := by simp [Program.fieldsOf, hu]
    have hr : (Op.equal t (.agg us.toArray) (.agg vs.toArray)).run P w = .ok (decide (la.map (·.2) = lb.map (·.2))) w := by
      unfold Op.equal Op.maxDepth
      rw [show (10000 : Nat) = 9998 + 1 + 1 from rfl, run_equalIn_struct (P := P) w (9998 + 1) t _ _ (by rw [hf]; exact hu) hp, hf]
      exact run_eqFields_ints 9998 w fs.toList 0 la lb _ _ hfi (by simpa using hl) hk (by simp [e1]) (by simp [e2])
    have hgd : ∀ op, (eqGuard op t x y (.agg us.toArray) (.agg vs.toArray)).run P w = .ok () w := by
      intro op
      unfold eqGuard
      cases op <;> simp [hg]
    refine ⟨_, ?_, by simp only [Vr]; rfl⟩
    cases neg
    · simp only [execOp, he, he', Bool.false_eq_true, if_false]
      simp only [Sem.run_bind, hgd, Result.andThen_ok, binOp, hr, Sem.run_pure]
    · simp only [execOp, he, he', if_true]
      simp only [Sem.run_bind, hgd, Result.andThen_ok, binOp, hr, Sem.run_pure]

section
variable {F : FF} {n : Nat} {d : Option Tmp} {ty : TypeId} {pos : String} {aft : Array Edge} {gd : Option (Nat × Bool)}

/-! ### Strings -/
theorem ok_indexStr {t : TypeId} {x i : Operand} {s : ByteArray} {k : IntKind} {j : Int} (ht : P.underlying t = some .string) (hx : ev gid F x = .val (.string s)) (hi : ev gid F i = .val (.int k j)) (h0 : 0 ≤ j) (h1 : j < s.size) :
    OpOK P gid ⟨d, .index t x i, ty, pos, aft, gd⟩ F [] [] [] n n (.val (.int .u8 ((s.data.toList.getD j.toNat 0).toNat : Int))) :=
  OpOK.pure fun E ρ H w a hw h3 _ => by
    have h4 := h3 x (by simp [Op.operands])
    have h5 := h3 i (by simp [Op.operands])
    rw [hx] at h4; rw [hi] at h5
    simp only [Vr] at h4 h5
    refine ⟨_, ?_, by simp only [Vr]; rfl⟩
    have hlt : j.toNat < s.size := by omega
    have e : s[j.toNat]? = some (s.data.toList.getD j.toNat 0) := by
      have h6 : j.toNat < s.data.size := hlt
      show (if h : j.toNat < s.size then some (s[j.toNat]'h) else none) = _
      rw [dif_pos hlt]
      have : s.data.toList.getD j.toNat 0 = s.data[j.toNat]'h6 := by
        simp only [List.getD_eq_getElem?_getD, Array.getElem?_toList]
        rw [Array.getElem?_eq_getElem h6]; rfl
      rw [this]; rfl
    simp [execOp, h4, h5, Instr.index, asIntOf, run_underlying ht, h0, e]

theorem run_boundsS (len : Nat) (lo hi : Option Value) (l h : Nat) (hlo : (lo = none ∧ l = 0) ∨ ∃ k, lo = some (.int k (l : Int))) (hhi : (hi = none ∧ h = len) ∨ ∃ k, hi = some (.int k (h : Int))) (h1 : l ≤ h) (h2 : h ≤ len) (w : World) :
    (Instr.sliceBounds false len len lo hi none).run P w = .ok (l, h, len) w := by
  rcases hlo with ⟨rfl, rfl⟩ | ⟨k, rfl⟩ <;> rcases hhi with ⟨rfl, rfl⟩ | ⟨k', rfl⟩ <;> simp [Instr.sliceBounds, Instr.sliceBound, asIntOf, h1, h2]

theorem ok_sliceStr {t : TypeId} (ht : P.underlying t = some .string) {x : Operand} {lo hi' : Option Operand} {s : ByteArray} {l h : Nat} (hx : ev gid F x = .val (.string s))
    (hlo : (lo = none ∧ l = 0) ∨ ∃ y k, lo = some y ∧ ev gid F y = .val (.int k (l : Int))) (hhi : (hi' = none ∧ h = s.size) ∨ ∃ y k, hi' = some y ∧ ev gid F y = .val (.int k (h : Int))) (h1 : l ≤ h) (h2 : h ≤ s.size) :
    OpOK P gid ⟨d, .slice t x lo hi' none, ty, pos, aft, gd⟩ F [] [] [] n n (.val (.string (s.extract l h))) :=
  OpOK.pure fun E ρ H w a hw h3 _ => by
    have h4 := h3 x (by simp [Op.operands])
    rw [hx] at h4
    simp only [Vr] at h4
    have hlo' : (lo.map a.eval = none ∧ l = 0) ∨ ∃ k, lo.map a.eval = some (.int k (l : Int)) := by
      rcases hlo with ⟨rfl, rfl⟩ | ⟨y, k, rfl, hy⟩
      · exact .inl ⟨rfl, rfl⟩
      · have := h3 y (by simp [Op.operands])
        rw [hy] at this
        simp only [Vr] at this
        exact .inr ⟨k, by simp [this]⟩
    have hhi' : (hi'.map a.eval = none ∧ h = s.size) ∨ ∃ k, hi'.map a.eval = some (.int k (h : Int)) := by
      rcases hhi with ⟨rfl, rfl⟩ | ⟨y, k, rfl, hy⟩
      · exact .inl ⟨rfl, rfl⟩
      · have := h3 y (by simp [Op.operands])
        rw [hy] at this
        simp only [Vr] at this
        exact .inr ⟨k, by simp [this]⟩
    have hb := run_boundsS (P := P) s.size _ _ l h hlo' hhi' h1 h2 w
    refine ⟨_, ?_, by simp only [Vr]; rfl⟩
    simp [execOp, h4, Instr.sliceAt, Instr.slice, run_underlying ht, hb]

theorem ok_range {t : TypeId} (ht : P.underlying t = some .string) {x : Operand} {s : ByteArray} (hx : ev gid F x = .val (.string s)) :
    OpOK P gid ⟨d, .range t x, ty, pos, aft, gd⟩ F [] [] [(n, .it s 0)] n (n + 1) (.ptr n 0) :=
  OpOK.mk (Nat.le_succ _) fun E ρ H w a h1 hk h3 _ _ hn => by
    have hn0 := hn n (Nat.le_refl _) (Nat.lt_succ_self _)
    have h4 := h3 x (by simp [Op.operands])
    rw [hx] at h4
    simp only [Vr] at h4
    refine ⟨.pointer (some ⟨w.heap.size, 0, none⟩), w.alloc (.stringIter s 0), eput ρ n ⟨some ⟨w.heap.size, 0, none⟩, some 1⟩, .value _, ?_, .inl rfl, eput_grow hn0 _, ?_, ?_⟩
    · simp [execOp, h4, Instr.range, run_underlying ht]
    · refine h1.new hk hn0 (by intro g hg; simp at hg; omega) (only_alloc _ _ _) ?_ rfl
      exact ⟨_, w.heap.size, eput_self _ _ _, rfl, heap_alloc_new' _ _⟩
    · simp only [Vr]; exact ⟨_, _, eput_self _ _ _, rfl, by simp [Addr.add]⟩

/-- One block that stays in its real place, told anew. -/
theorem WSt.same1 {E : Ent} {ρ : Env} {H : Hp} {w w' : World} {b : Nat} {k k' : Blk} (h : WSt P gid E ρ H w) (hb : H b = some k) (hm : k.mine = true) (ho : Only (gone ρ [(b, k)]) w w') (hb' : BlkOk P ρ w' b k') (hm' : k'.mine = true) :
    WSt P gid E ρ (upd H [(b, k)] [(b, k')]) w' := by
  refine h.step ?_ (Ext.refl _) (fun i hi hi' => absurd hi hi') ho ?_ ?_ ?_ ?_ ?_
  · intro c k1 hc
    rw [lk_one] at hc
    split at hc
    · rename_i e; cases hc; subst e; exact hb
    · cases hc
  · intro c k1 hc
    rw [lk_one] at hc
    split at hc
    · rename_i e; cases hc; subst e; exact hb'
    · cases hc
  · intro c k1 g hc hs hg
    rw [lk_one] at hc
    split at hc
    · rename_i e; cases hc; subst e; exact .inl ⟨c, k, lk_self _ _, hm, hg⟩
    · cases hc
  · intro b1 b2 k1 k2 g' hne hb1 hb2
    rw [lk_one] at hb1 hb2
    split at hb1
    · split at hb2
      · rename_i e1 e2; exact absurd (e1.trans e2.symm) hne
      · cases hb2
    · cases hb1
  · intro c k1 hc
    rw [lk_one] at hc
    split at hc
    · cases hc; exact hm'
    · cases hc
  · intro c k1 hc
    rw [lk_one] at hc
    split at hc
    · cases hc; exact hm
    · cases hc

theorem ok_next_end {x : Operand} {b o : Nat} {s : ByteArray} {p : Nat} (hx : ev gid F x = .ptr b o) (ho : o = 0) (hp : ¬ p < s.size) :
    OpOK P gid ⟨d, .next x true, ty, pos, aft, gd⟩ F [(b, .it s p)] [] [] n n (.tup [.val (.bool false)]) :=
  OpOK.pure fun E ρ H w a h1 h3 h4 => by
    subst ho
    have h5 := h3 x (by simp [Op.operands])
    rw [hx] at h5
    simp only [Vr] at h5
    obtain ⟨lc, ad, hl, ha, he⟩ := h5
    obtain ⟨lc', g, hl', hg, hh⟩ := h1.own.ok b _ (h4 b _ (lk_self _ _))
    rw [hl] at hl'; cases hl'
    rw [ha] at hg; cases hg
    refine ⟨.tuple #[.bool false], ?_, by simp only [Vr]; exact ⟨[.bool false], rfl, by simp [VrL, Vr]⟩⟩
    simp [execOp, he, Addr.add, Instr.next, getObj, Sem.run, hh, hp]

theorem ok_next {x : Operand} {b o : Nat} {s : ByteArray} {p : Nat} (hx : ev gid F x = .ptr b o) (ho : o = 0) (hp : p < s.size) :
    OpOK P gid ⟨d, .next x true, ty, pos, aft, gd⟩ F [] [(b, .it s p)] [(b, .it s (p + (Utf8.decode s p).2))] n n (.tup [.val (.bool true), .val (.int .i64 p), .val (.int .i32 (Utf8.decode s p).1)]) :=
  OpOK.mk (Nat.le_refl _) fun E ρ H w a h1 hk h3 _ h4 hn => by
    subst ho
    have h5 := h3 x (by simp [Op.operands])
    rw [hx] at h5
    simp only [Vr] at h5
    obtain ⟨lc, ad, hl, ha, he⟩ := h5
    have hHb := h4 b _ (lk_self _ _)
    obtain ⟨lc', g, hl', hg, hh⟩ := h1.own.ok b _ hHb
    rw [hl] at hl'; cases hl'
    rw [ha] at hg; cases hg
    have hlt : g < w.heap.size := (Array.getElem?_eq_some_iff.1 hh).1
    refine ⟨.tuple #[.bool true, .int .i64 p, .int .i32 (Utf8.decode s p).1], { w with heap := w.heap.setIfInBounds g (.stringIter s (p + (Utf8.decode s p).2)) }, ρ, .value _, ?_, .inl rfl, ⟨Ext.refl _, fun i hi hi' => absurd hi hi'⟩, ?_, ?_⟩
    · simp [execOp, he, Addr.add, Instr.next, getObj, setObj, Sem.run, hh, hp, goInt]
    · refine h1.same1 hHb rfl ⟨rfl, rfl, rfl, by simp, fun g' hg' hn' => ?_⟩ ⟨lc, g, hl, ha, by simp [hlt]⟩ rfl
      have : g ≠ g' := fun e => hn' ⟨b, _, lk_self _ _, rfl, by simp [at?, hl, ha, e]⟩
      simp [Array.getElem?_setIfInBounds_ne this]
    · simp only [Vr]; exact ⟨[.bool true, .int .i64 p, .int .i32 (Utf8.decode s p).1], rfl, by simp [VrL, Vr]⟩

/-! ### Parts of an array's value -/
theorem ok_indexAgg {t e : TypeId} {len : Nat} {x i : Operand} {cs : List V} {k : IntKind} {j : Int} {ti : TypeInfo} {td : TypeDesc} (ht : P.underlying t = some (.array len e)) (hi : P.info? e = some ti) (htd : P.underlying e = some td)
    (hx : ev gid F x = .agg cs) (hz : ev gid F i = .val (.int k j)) (h0 : 0 ≤ j) (h1 : j < len) {v : V}
    (hv : (aggD td = false ∧ cs[j.toNat * ti.size]? = some v) ∨ (aggD td = true ∧ j.toNat * ti.size + ti.size ≤ cs.length ∧ v = .agg ((cs.drop (j.toNat * ti.size)).take ti.size))) :
    OpOK P gid ⟨d, .index t x i, ty, pos, aft, gd⟩ F [] [] [] n n v :=
  OpOK.pure fun E ρ H w a hw h3 _ => by
    have h4 := h3 x (by simp [Op.operands])
    have h5 := h3 i (by simp [Op.operands])
    rw [hx] at h4; rw [hz] at h5
    simp only [Vr] at h4 h5
    obtain ⟨us, he, hus⟩ := h4
    have hand : 0 ≤ j ∧ j < (len : Int) := ⟨h0, h1⟩
    rcases hv with ⟨hag, hv⟩ | ⟨hag, hle, rfl⟩
    · obtain ⟨u, h6, h7⟩ := hus.get hv
      refine ⟨u, ?_, h7⟩
      simp [execOp, he, h5, Instr.index, asIntOf, run_underlying ht, hand, sizeOf, typeInfo, hi, part, run_isAgg htd, hag, h6]
    · refine ⟨.agg ((us.drop (j.toNat * ti.size)).take ti.size).toArray, ?_, by simp only [Vr]; exact ⟨_, rfl, (hus.drop _).take _⟩⟩
      have hex : us.toArray.extract (j.toNat * ti.size) (j.toNat * ti.size + ti.size) = ((us.drop (j.toNat * ti.size)).take ti.size).toArray := by
        rw [List.extract_toArray, List.extract_eq_take_drop]
        congr 2
        omega
      simp [execOp, he, h5, Instr.index, asIntOf, run_underlying ht, hand, sizeOf, typeInfo, hi, part, run_isAgg htd, hag, hex]

theorem ok_makeSlice {t e : TypeId} {i : TypeInfo} {z : Value} (ht : P.underlying t = some (.slice e)) (hi : P.info? e = some i) (hz : i.zero = some z) (hzs : z.cells.size = i.size) {x y : Operand} {k k' : IntKind} {l : Nat}
    (hx : ev gid F x = .val (.int k (l : Int))) (hy : ev gid F y = .val (.int k' (l : Int))) (hby : i.bytes ≤ 100000) (hl : l ≤ 1000000000) :
    OpOK P gid ⟨d, .makeSlice t x y, ty, pos, aft, gd⟩ F [] [] [(n, .own e (vals ((List.range (l * i.size)).map fun j => z.cells[j % z.cells.size]!)))] n (n + 1) (.sl n 0 l) :=
  OpOK.mk (Nat.le_succ _) fun E ρ H w a h1 hk h3 _ _ hn => by
    have hn0 := hn n (Nat.le_refl _) (Nat.lt_succ_self _)
    have h4 := h3 x (by simp [Op.operands])
    have h5 := h3 y (by simp [Op.operands])
    rw [hx] at h4; rw [hy] at h5
    simp only [Vr] at h4 h5
    have hbytes : (i.bytes : Int) * (l : Int) ≤ 281474976710656 := by
      have := Nat.mul_le_mul hby hl
      have h6 : ((i.bytes * l : Nat) : Int) ≤ ((100000 * 1000000000 : Nat) : Int) := Int.ofNat_le.2 this
      simp only [Int.natCast_mul] at h6
      omega
    have hr := run_make (P := P) w t e i z ht hi hz k k' (l : Int) (l : Int) (by omega) (by omega) hbytes (by omega)
    simp only [Int.toNat_natCast] at hr
    refine ⟨.slice (some ⟨w.heap.size, 0, none⟩) l l, w.alloc (.cells (madeCells z.cells (l * i.size)) e), eput ρ n ⟨some ⟨w.heap.size, 0, none⟩, some l⟩, .value _, ?_, .inl rfl, eput_grow hn0 _, ?_, ?_⟩
    · simp [execOp, h4, h5, hr]
    · have hm : (madeCells z.cells (l * i.size)).toList = (List.range (l * i.size)).map fun j => z.cells[j % z.cells.size]! := by
        simp [madeCells]
      refine h1.new hk hn0 (by intro g hg; simp at hg; omega) (only_alloc _ _ _) ?_ rfl
      refine ⟨_, eput_self _ _ _, .inr ⟨w.heap.size, _, rfl, heap_alloc_new' _ _, ⟨l, rfl, ?_, by simp only [maxLen]; omega⟩, ?_, ?_⟩⟩
      · rw [cellsOf_eq hi]
        have := congrArg List.length hm
        simpa using this
      · have := congrArg List.length hm
        simp at this ⊢
        omega
      · simp only [vals_length, List.length_map, List.length_range]
        rw [List.take_of_length_le (by have := congrArg List.length hm; simp at this ⊢; omega), hm]
        exact VrL_vals.2 rfl
    · simp only [Vr]
      exact ⟨_, _, _, eput_self _ _ _, rfl, Nat.le_refl _, fun _ k hk => ⟨rfl, by cases hk; rfl⟩, fun _ => ⟨_, rfl, by simp [Addr.add]⟩⟩
end
end
end Go.Abs
