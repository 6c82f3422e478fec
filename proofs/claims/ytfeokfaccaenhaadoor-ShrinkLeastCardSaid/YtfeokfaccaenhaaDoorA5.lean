/- The abstract logic, part 5: literals, make, parts of values, strings. -/
import Derived.Test.YtfeokfaccaenhaaDoorA4
set_option linter.unusedVariables false
set_option linter.unusedSimpArgs false
namespace Go.Abs
section
variable {P : Program} {gid : Nat → Option Nat}

theorem foldl_set_list (off : Nat) : ∀ (vs : List Value) (j : Nat) (cells : Array Value), off + j + vs.length ≤ cells.size →
    ((vs.zipIdx j).foldl (fun cs (x : Value × Nat) => cs.setIfInBounds (off + x.2) x.1) cells).toList = cells.toList.take (off + j) ++ vs ++ cells.toList.drop (off + j + vs.length)
  | [], j, cells, _ => by simp
  | v :: vs, j, cells, h => by
    simp only [List.zipIdx_cons, List.foldl_cons]
    rw [foldl_set_list off vs (j + 1) _ (by simp at h ⊢; omega)]
    have e := list_seg_step cells.toList (off + j) v vs (by simp at h ⊢; omega)
    simpa [Array.toList_setIfInBounds, Nat.add_assoc] using e

theorem foldl_set (off : Nat) (vs cells : Array Value) (h : off + vs.size ≤ cells.size) :
    (vs.zipIdx.foldl (fun cs (x : Value × Nat) => cs.setIfInBounds (off + x.2) x.1) cells).toList = cells.toList.take off ++ vs.toList ++ cells.toList.drop (off + vs.size) := by
  have := foldl_set_list off vs.toList 0 cells (by simpa using h)
  simp only [Nat.add_zero, Array.length_toList] at this
  rw [← this, ← Array.foldl_toList, Array.toList_zipIdx]

def PartsOk (ρ : Env) (place : Nat → Option (Nat × Nat)) : List (Nat × Value) → List (Nat × V) → Prop
  | [], [] => True
  | (i, x) :: r, (o, v) :: r' => place i = some (o, v.cells.length) ∧ Vr ρ v x ∧ PartsOk ρ place r r'
  | _, _ => False

theorem fill_ok {ρ : Env} {place : Nat → Option (Nat × Nat)} : ∀ (parts : List (Nat × Value)) (ap : List (Nat × V)) (z : List V) (cells : Array Value), VrL ρ z cells.toList → PartsOk ρ place parts ap → fillOk z.length ap →
    ∃ cells', Instr.fill place cells parts = some cells' ∧ VrL ρ (fillV z ap) cells'.toList ∧ (fillV z ap).length = z.length
  | [], [], z, cells, hz, _, _ => ⟨cells, rfl, hz, rfl⟩
  | (i, x) :: r, (o, v) :: r', z, cells, hz, hp, hok => by
    simp only [PartsOk] at hp
    simp only [fillOk] at hok
    obtain ⟨hpl, hv, hp⟩ := hp
    obtain ⟨h1, h2, h3⟩ := hok
    have hc := Vr_cells hv h2
    have hcl : v.cells.length = x.cells.size := by rw [hc.length]; simp
    have hzl := hz.length
    have hlen : (z.take o ++ v.cells ++ z.drop (o + v.cells.length)).length = z.length := by simp; omega
    have hbnd : o + x.cells.size ≤ cells.size := by rw [← hcl]; simp at hzl; omega
    have hnew : VrL ρ (z.take o ++ v.cells ++ z.drop (o + v.cells.length)) (x.cells.zipIdx.foldl (fun cs (y : Value × Nat) => cs.setIfInBounds (o + y.2) y.1) cells).toList := by
      rw [foldl_set o x.cells cells hbnd, ← hcl]
      exact ((hz.take o).append hc).append (hz.drop _)
    obtain ⟨cells', h4, h5, h6⟩ := fill_ok r r' _ _ hnew hp (by rw [hlen]; exact h3)
    refine ⟨cells', ?_, h5, by rw [fillV, h6, hlen]⟩
    simp only [Instr.fill, hpl]
    rw [if_neg]
    · exact h4
    · simp [hcl]; omega
  | [], _ :: _, z, cells, _, hp, _ => by simp only [PartsOk] at hp
  | _ :: _, [], z, cells, _, hp, _ => by simp only [PartsOk] at hp

def mkParts (gid : Nat → Option Nat) (F : FF) (place : Nat → Option (Nat × Nat)) (parts : List (Nat × Operand)) : List (Nat × V) :=
  parts.map fun p => (((place p.1).map (·.1)).getD 0, ev gid F p.2)

theorem partsOk_mk {ρ : Env} {F : FF} {a : Act} {place : Nat → Option (Nat × Nat)} : ∀ {parts : List (Nat × Operand)}, (∀ p ∈ parts, Vr ρ (ev gid F p.2) (a.eval p.2)) →
    (∀ p ∈ parts, ∃ o, place p.1 = some (o, (ev gid F p.2).cells.length)) → PartsOk ρ place (parts.map fun p => (p.1, a.eval p.2)) (mkParts gid F place parts)
  | [], _, _ => by simp [mkParts, PartsOk]
  | p :: r, h, hp => by
    simp only [mkParts, List.map_cons, PartsOk]
    obtain ⟨o, ho⟩ := hp p (by simp)
    exact ⟨by rw [ho]; rfl, h p (by simp), partsOk_mk (fun q hq => h q (by simp [hq])) (fun q hq => hp q (by simp [hq]))⟩

section
variable {F : FF} {n : Nat} {d : Option Tmp} {ty : TypeId} {pos : String} {aft : Array Edge} {gd : Option (Nat × Bool)}

/-- Where a slice literal's parts lie. -/
def slicePlace (size : Nat) : Nat → Option (Nat × Nat) := fun i => some (i * size, size)

theorem ok_buildSlice {t e : TypeId} {i : TypeInfo} {len : Nat} {parts : Array (Nat × Operand)} {z : Value} (ht : P.underlying t = some (.slice e)) (hi : P.info? e = some i) (hz : i.zero = some z) (hzs : z.cells.size = i.size)
    (hsm : len * i.size ≤ 16777216) (hm : len ≤ maxLen)
    (hpl : ∀ p ∈ parts.toList, (ev gid F p.2).cells.length = i.size) {zc : List V} (hzc : zc = (List.range (len * i.size)).map fun j => V.val (z.cells[j % i.size]!))
    (hok : fillOk (len * i.size) (mkParts gid F (slicePlace i.size) parts.toList)) :
    OpOK P gid ⟨d, .buildSlice t len parts, ty, pos, aft, gd⟩ F [] [] [(n, .own e (fillV zc (mkParts gid F (slicePlace i.size) parts.toList)))] n (n + 1) (.sl n 0 len) :=
  OpOK.mk (Nat.le_succ _) fun E ρ H w a h1 hk h3 _ _ hn => by
    have hn0 := hn n (Nat.le_refl _) (Nat.lt_succ_self _)
    subst hzc
    have hzero : VrL ρ ((List.range (len * i.size)).map fun j => V.val (z.cells[j % i.size]!)) ((Array.range (len * i.size)).map (z.cells[· % z.cells.size]!)).toList := by
      rw [hzs]
      have : ((List.range (len * i.size)).map fun j => V.val (z.cells[j % i.size]!)) = vals ((List.range (len * i.size)).map fun j => z.cells[j % i.size]!) := by simp [vals]
      rw [this]
      exact VrL_vals.2 (by simp)
    have hparts : ∀ p ∈ parts.toList, Vr ρ (ev gid F p.2) (a.eval p.2) := fun p hp => h3 p.2 (by
      simp only [Op.operands, List.mem_toArray, List.mem_map]
      exact ⟨p, hp, rfl⟩)
    obtain ⟨cells', h4, h5, h6⟩ := fill_ok (ρ := ρ) (place := slicePlace i.size) _ _ _ _ hzero (partsOk_mk hparts fun p hp => ⟨p.1 * i.size, by simp [slicePlace, hpl p hp]⟩) (by simpa using hok)
    have hcs : cells'.size = len * i.size := by
      have := h5.length
      rw [h6] at this
      simpa using this.symm
    refine ⟨.slice (some ⟨w.heap.size, 0, none⟩) len len, w.alloc (.cells cells' e), eput ρ n ⟨some ⟨w.heap.size, 0, none⟩, some len⟩, .value _, ?_, .inl rfl, eput_grow hn0 _, ?_, ?_⟩
    · have hpm : (parts.map fun (x : Nat × Operand) => (x.1, a.eval x.2)).toList = parts.toList.map fun p => (p.1, a.eval p.2) := by simp
      have hb : ¬ (16777216 < len * i.size) := by omega
      have h4' : Instr.fill (fun k => some (k * i.size, i.size)) ((Array.range (len * i.size)).map (z.cells[· % z.cells.size]!)) (parts.map fun (x : Nat × Operand) => (x.1, a.eval x.2)).toList = some cells' := by rw [hpm]; exact h4
      simp only [execOp, Instr.buildSlice, run_underlying ht, sizeOf, typeInfo, zeroValue, hi, hz, Sem.run_bind, Sem.run_pure, Result.andThen_ok]
      by_cases h0 : len * i.size = 0
      · have e0 : ∀ f : Nat → Value, (Array.range (len * i.size)).map f = #[] := fun f => Array.eq_empty_of_size_eq_zero (by simp [h0])
        have e1 : ∀ f : Nat → Value, (Array.range 0).map f = #[] := fun f => Array.eq_empty_of_size_eq_zero (by simp)
        rw [e0] at h4'
        simp [typeInfo, hi, hz, h0, newRow, e1] at h4' ⊢
        simp [h4', newRow]
      · simp [typeInfo, hi, hz, hb, h0] at h4' ⊢
        simp [h4', newRow]
    · refine h1.new hk hn0 (by intro g hg; simp at hg; omega) (only_alloc _ _ _) ?_ rfl
      refine ⟨_, eput_self _ _ _, .inr ⟨w.heap.size, cells', rfl, heap_alloc_new' _ _, ⟨len, rfl, by rw [cellsOf_eq hi]; exact hcs, hm⟩, ?_, ?_⟩⟩
      · rw [h5.length]; simp
      · rw [h5.length, List.take_of_length_le (by simp)]
        exact VrL.ext (eput_ext hn0 _) _ _ h5
    · simp only [Vr]
      exact ⟨_, _, _, eput_self _ _ _, rfl, Nat.le_refl _, fun _ k hk => ⟨rfl, by cases hk; rfl⟩, fun _ => ⟨_, rfl, by simp [Addr.add]⟩⟩

/-- Where a struct's fields lie. -/
def structPlace (P : Program) (fs : Array Field) : Nat → Option (Nat × Nat) := fun i => (fs[i]?).map fun f => (f.offset, P.cellsOf f.type)

theorem run_places (fs : List Field) (h : ∀ f ∈ fs, ∃ i, P.info? f.type = some i) (w : World) :
    (fs.mapM fun f => do pure (f.offset, ← sizeOf f.type) : Sem (List (Nat × Nat))).run P w = .ok (fs.map fun f => (f.offset, P.cellsOf f.type)) w := by
  induction fs with
  | nil => simp
  | cons f fs ih =>
    obtain ⟨i, hi⟩ := h f (by simp)
    have ih' := ih (fun g hg => h g (by simp [hg]))
    simp only [List.mapM_cons, Sem.run_bind, List.map_cons]
    simp only [sizeOf, typeInfo, hi, Sem.run_bind, Sem.run_pure, Result.andThen_ok]
    simp [sizeOf, typeInfo, hi, Program.cellsOf] at ih' ⊢
    simp [ih', Program.cellsOf]

theorem ok_buildStruct {t : TypeId} {fs : Array Field} {i : TypeInfo} {z : Value} {parts : Array (Nat × Operand)} (ht : P.underlying t = some (.struct fs)) (hi : P.info? t = some i) (hz : i.zero = some z)
    (hfs : fs.all (fun f => (P.info? f.type).isSome) = true)
    (hpl : ∀ p ∈ parts.toList, ∃ o, structPlace P fs p.1 = some (o, (ev gid F p.2).cells.length))
    (hok : fillOk z.cells.size (mkParts gid F (structPlace P fs) parts.toList)) :
    OpOK P gid ⟨d, .build t parts, ty, pos, aft, gd⟩ F [] [] [] n n (.agg (fillV (vals z.cells.toList) (mkParts gid F (structPlace P fs) parts.toList))) :=
  OpOK.pure fun E ρ H w a h1 h3 _ => by
    have hparts : ∀ p ∈ parts.toList, Vr ρ (ev gid F p.2) (a.eval p.2) := fun p hp => h3 p.2 (by
      simp only [Op.operands, List.mem_toArray, List.mem_map]
      exact ⟨p, hp, rfl⟩)
    obtain ⟨cells', h4, h5, h6⟩ := fill_ok (ρ := ρ) (place := structPlace P fs) _ _ (vals z.cells.toList) z.cells (VrL_vals.2 rfl) (partsOk_mk hparts hpl) (by simpa using hok)
    refine ⟨.agg cells', ?_, ?_⟩
    · have hpm : (parts.map fun (x : Nat × Operand) => (x.1, a.eval x.2)).toList = parts.toList.map fun p => (p.1, a.eval p.2) := by simp
      have hpf : (fun k => ((fs.toList.map fun f => (f.offset, P.cellsOf f.type)).toArray)[k]?) = structPlace P fs := by
        funext k
        simp [structPlace]
      have hrp := run_places (P := P) fs.toList (fun f hf => by
        have := Array.all_eq_true_iff_forall_mem.1 hfs f (by simpa using hf)
        exact Option.isSome_iff_exists.1 this) w
      have hmap : (fs.mapM fun f => do pure (f.offset, ← sizeOf f.type) : Sem (Array (Nat × Nat))).run P w = .ok (fs.toList.map fun f => (f.offset, P.cellsOf f.type)).toArray w := by
        rw [Array.mapM_eq_mapM_toList]
        simp only [← bind_pure_comp, Sem.run_bind, hrp, Result.andThen_ok, Sem.run_pure]
      have hzv : (zeroValue t).run P w = .ok z w := by simp [zeroValue, typeInfo, hi, hz]
      have hb : (Instr.build t (parts.map fun (x : Nat × Operand) => (x.1, a.eval x.2))).run P w = .ok (.agg cells') w := by
        unfold Instr.build
        simp only [Sem.run_bind, hzv, Result.andThen_ok, run_underlying ht, hmap, hpm]
        rw [hpf, h4]
        rfl
      simp only [execOp, Sem.run_bind, hb, Result.andThen_ok, Sem.run_pure]
    · simp only [Vr]
      exact ⟨cells'.toList, by simp, h5⟩
end
end
end Go.Abs
