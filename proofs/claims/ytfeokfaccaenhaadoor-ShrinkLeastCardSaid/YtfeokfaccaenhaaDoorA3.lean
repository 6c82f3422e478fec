/- The abstract logic, part 3: operations that read and write memory. -/
import Derived.Test.YtfeokfaccaenhaaDoorA2
set_option linter.unusedVariables false
set_option linter.unusedSimpArgs false
namespace Go.Abs
section
variable {P : Program} {gid : Nat → Option Nat}

def eput (ρ : Env) (n : Nat) (l : Loc) : Env := fun i => if i = n then some l else ρ i
theorem eput_ext {ρ : Env} {n : Nat} (h : ρ n = none) (l : Loc) : Ext ρ (eput ρ n l) := fun b k hb => by
  unfold eput
  split
  · rename_i e; rw [e, h] at hb; cases hb
  · exact hb
theorem eput_grow {ρ : Env} {n : Nat} (h : ρ n = none) (l : Loc) : Grow n (n + 1) ρ (eput ρ n l) :=
  ⟨eput_ext h l, fun i hi hi' => by
    unfold eput at hi'
    split at hi'
    · omega
    · exact absurd hi hi'⟩
@[simp] theorem eput_self (ρ : Env) (n : Nat) (l : Loc) : eput ρ n l n = some l := by simp [eput]

theorem lk_self (b : Nat) (k : Blk) : lk [(b, k)] b = some k := by simp [lk]
theorem lk_one (b : Nat) (k : Blk) (i : Nat) : lk [(b, k)] i = if i = b then some k else none := rfl

theorem heap_alloc_new' (w : World) (o : Obj) : (w.alloc o).heap[w.heap.size]? = some o := by
  show (w.heap.push o)[w.heap.size]? = some o
  simp
theorem heap_alloc_old' (w : World) (o : Obj) {i : Nat} (h : i < w.heap.size) : (w.alloc o).heap[i]? = w.heap[i]? := by
  show (w.heap.push o)[i]? = w.heap[i]?
  rw [Array.getElem?_push, if_neg (Nat.ne_of_lt h)]

/-- A new block. -/
theorem WSt.new {E : Ent} {ρ : Env} {H : Hp} {w w' : World} {n : Nat} {k : Blk} {l : Loc} (h : WSt P gid E ρ H w) (hk : E.k ≤ n) (hn : ρ n = none)
    (hl : ∀ g, l.addr.map (·.block) = some g → w.heap.size ≤ g) (ho : Only (fun _ => False) w w') (hb : BlkOk P (eput ρ n l) w' n k) (hm : k.mine = true) :
    WSt P gid E (eput ρ n l) (upd H [] [(n, k)]) w' := by
  refine h.step (by intro b k' hb'; simp [lk] at hb') (eput_ext hn l) ?_ ?_ ?_ ?_ ?_ ?_ ?_
  · intro b h1 h2
    by_cases e : b = n
    · omega
    · simp [eput, e, h1] at h2
  · exact ho.mono fun g hg => hg.elim
  · intro b k' hb'
    rw [lk_one] at hb'
    split at hb'
    · rename_i e; cases hb'; subst e; exact hb
    · cases hb'
  · intro b k' g hb' hs hg
    rw [lk_one] at hb'
    split at hb'
    · rename_i e; cases hb'; subst e
      exact .inr (hl g (by simpa [at?] using hg))
    · cases hb'
  · intro b b' k' k'' g hne hb1 hb2
    rw [lk_one] at hb1 hb2
    split at hb1
    · split at hb2
      · rename_i e1 e2; exact absurd (e1.trans e2.symm) hne
      · cases hb2
    · cases hb1
  · intro b k' hb'
    rw [lk_one] at hb'
    split at hb'
    · cases hb'; exact hm
    · cases hb'
  · intro b k' hb'; simp [lk] at hb'

theorem only_alloc (w : World) (o : Obj) (B : Nat → Prop) : Only B w (w.alloc o) :=
  ⟨rfl, rfl, rfl, by simp, fun g hg _ => heap_alloc_old' w o hg⟩
theorem only_drew (w : World) (B : Nat → Prop) : Only B w w.drew := ⟨rfl, rfl, rfl, Nat.le_refl _, fun _ _ _ => rfl⟩
theorem Only.trans {B : Nat → Prop} {a b c : World} (h : Only B a b) (k : Only B b c) : Only B a c :=
  ⟨k.os.trans h.os, k.tape.trans h.tape, k.output.trans h.output, Nat.le_trans h.size k.size, fun g hg hn => (k.block g (Nat.lt_of_lt_of_le hg h.size) hn).trans (h.block g hg hn)⟩
theorem only_setRow (w : World) (g : Nat) (cs : Array Value) : Only (fun i => i = g) w (w.setRow g cs) :=
  ⟨rfl, rfl, rfl, by simp, fun k hk hn => setRow_other w g k cs hn⟩

theorem VrL_take_all {ρ : Env} {cs : List V} {vs rest : List Value} (h : VrL ρ cs vs) : VrL ρ cs ((vs ++ rest).take cs.length) := by
  rw [h.length, List.take_left]; exact h

section
variable {F : FF} {n : Nat} {d : Option Tmp} {ty : TypeId} {pos : String} {aft : Array Edge} {gd : Option (Nat × Bool)}

theorem cellsOf_eq {e : TypeId} {i : TypeInfo} (hi : P.info? e = some i) : P.cellsOf e = i.size := by simp [Program.cellsOf, hi]

theorem ok_alloc {e : TypeId} {i : TypeInfo} {z : Value} (hi : P.info? e = some i) (hz : i.zero = some z) (hsz : z.cells.size = i.size) :
    OpOK P gid ⟨d, .alloc e, ty, pos, aft, gd⟩ F [] [] [(n, .own e (vals z.cells.toList))] n (n + 1) (.ptr n 0) :=
  OpOK.mk (Nat.le_succ _) fun E ρ H w a h1 hk h3 _ _ hn => by
    have hn0 := hn n (Nat.le_refl _) (Nat.lt_succ_self _)
    refine ⟨.pointer (some ⟨w.heap.size, 0, none⟩), w.alloc (.cells z.cells e), eput ρ n ⟨some ⟨w.heap.size, 0, none⟩, some 1⟩, .value _, ?_, .inl rfl, eput_grow hn0 _, ?_, ?_⟩
    · simp [execOp, Instr.alloc, zeroValue, typeInfo, hi, hz, newVar, newRow]
    · refine h1.new hk hn0 (by intro g hg; simp at hg; omega) (only_alloc _ _ _) ?_ rfl
      refine ⟨_, eput_self _ _ _, .inr ⟨w.heap.size, z.cells, rfl, heap_alloc_new' _ _, ⟨1, rfl, by rw [cellsOf_eq hi]; simp [hsz], by simp [maxLen]⟩, by simp, ?_⟩⟩
      simp only [vals_length, Array.length_toList]
      rw [List.take_of_length_le (by simp)]
      exact VrL_vals.2 rfl
    · simp only [Vr]; exact ⟨_, _, eput_self _ _ _, rfl, by simp [Addr.add]⟩

theorem ok_box {e : TypeId} {x : Operand} {i : TypeInfo} (hi : P.info? e = some i) {v : V} (hx : ev gid F x = v) (hsz : v.cells.length = i.size) (hfl : v.cells.all V.flat = true) :
    OpOK P gid ⟨d, .box e x, ty, pos, aft, gd⟩ F [] [] [(n, .own e v.cells)] n (n + 1) (.ptr n 0) :=
  OpOK.mk (Nat.le_succ _) fun E ρ H w a h1 hk h3 _ _ hn => by
    have hn0 := hn n (Nat.le_refl _) (Nat.lt_succ_self _)
    have h4 := h3 x (by simp [Op.operands])
    rw [hx] at h4
    have h5 := Vr_cells h4 hfl
    have h6 := h5.length
    refine ⟨.pointer (some ⟨w.heap.size, 0, none⟩), w.alloc (.cells (a.eval x).cells e), eput ρ n ⟨some ⟨w.heap.size, 0, none⟩, some 1⟩, .value _, ?_, .inl rfl, eput_grow hn0 _, ?_, ?_⟩
    · simp [execOp, Instr.box, newVar, newRow]
    · refine h1.new hk hn0 (by intro g hg; simp at hg; omega) (only_alloc _ _ _) ?_ rfl
      refine ⟨_, eput_self _ _ _, .inr ⟨w.heap.size, (a.eval x).cells, rfl, heap_alloc_new' _ _, ⟨1, rfl, ?_, by simp [maxLen]⟩, by simp [h6], ?_⟩⟩
      · rw [cellsOf_eq hi, ← hsz, h6]; simp
      · rw [List.take_of_length_le (by rw [h6]; exact Nat.le_refl _)]
        exact VrL.ext (eput_ext hn0 _) _ _ h5
    · simp only [Vr]; exact ⟨_, _, eput_self _ _ _, rfl, by simp [Addr.add]⟩

/-! Loads -/
def aggD : TypeDesc → Bool
  | .struct _ | .array .. => true
  | _ => false
theorem run_isAgg {t : TypeId} {td : TypeDesc} (ht : P.underlying t = some td) (w : World) : (isAgg t).run P w = .ok (aggD td) w := by
  simp only [isAgg, Sem.run_bind, run_underlying ht, Result.andThen_ok]
  cases td <;> rfl
theorem run_load_cell {w : World} {a : Addr} {v : Value} (h : w.cell? a = some v) : (load a).run P w = .ok v w := by
  simp [load, Sem.run, h]

theorem ok_load1_ro {t : TypeId} {td : TypeDesc} (ht : P.underlying t = some td) (hag : aggD td = false) {x : Operand} {b o : Nat} (hx : ev gid F x = .ptr b o) {l : List Value} {v : Value} (hv : l[o]? = some v) :
    OpOK P gid ⟨d, .load t x, ty, pos, aft, gd⟩ F [(b, .ro l)] [] [] n n (.val v) :=
  OpOK.pure fun E ρ H w a h1 h3 h4 => by
    have hb := h1.own.ok b _ (h4 b _ (lk_self _ _))
    have h5 := h3 x (by simp [Op.operands])
    rw [hx] at h5
    simp only [Vr] at h5 ⊢
    obtain ⟨lc, ad, hl, ha, he⟩ := h5
    obtain ⟨lc', hl', hc⟩ := hb
    rw [hl] at hl'; cases hl'
    rcases hc with rfl | ⟨ad', ha', hc⟩
    · simp at hv
    · rw [ha] at ha'; cases ha'
      refine ⟨v, ?_, rfl⟩
      simp [execOp, he, Instr.loadAt, Instr.sureAddr, loadVar, run_isAgg ht, hag, hc o v hv]

theorem run_loadN {w : World} {a : Addr} {m : Nat} {vs : List Value} (hm : vs.length = m) (h : ∀ j v, vs[j]? = some v → w.cell? (a.add j) = some v) : (loadCells a m).run P w = .ok vs.toArray w := by
  subst hm
  exact run_loadCells_list w a vs h

theorem ok_loadN_ro {t : TypeId} {td : TypeDesc} {i : TypeInfo} (ht : P.underlying t = some td) (hag : aggD td = true) (hi : P.info? t = some i) {x : Operand} {b o : Nat} (hx : ev gid F x = .ptr b o) {l : List Value} (hv : o + i.size ≤ l.length) :
    OpOK P gid ⟨d, .load t x, ty, pos, aft, gd⟩ F [(b, .ro l)] [] [] n n (.agg (vals ((l.drop o).take i.size))) :=
  OpOK.pure fun E ρ H w a h1 h3 h4 => by
    have hb := h1.own.ok b _ (h4 b _ (lk_self _ _))
    have h5 := h3 x (by simp [Op.operands])
    rw [hx] at h5
    simp only [Vr] at h5 ⊢
    obtain ⟨lc, ad, hl, ha, he⟩ := h5
    obtain ⟨lc', hl', hc⟩ := hb
    rw [hl] at hl'; cases hl'
    refine ⟨.agg ((l.drop o).take i.size).toArray, ?_, _, rfl, VrL_vals.2 rfl⟩
    have hr : (loadCells (ad.add o) i.size).run P w = .ok ((l.drop o).take i.size).toArray w := by
      refine run_loadN (by simp; omega) fun j v hj => ?_
      rw [List.getElem?_take] at hj
      split at hj
      · rw [List.getElem?_drop] at hj
        rcases hc with rfl | ⟨ad', ha', hc⟩
        · simp at hj
        · rw [ha] at ha'; cases ha'
          rw [addr_add_add]
          exact hc _ _ hj
      · cases hj
    simp [execOp, he, Instr.loadAt, Instr.sureAddr, loadVar, run_isAgg ht, hag, sizeOf, typeInfo, hi, hr]

theorem own_cell {w : World} {g : Nat} {cur : Array Value} {e : TypeId} (h : w.heap[g]? = some (.cells cur e (0, 0))) (o : Nat) : w.cell? ((⟨g, 0, none⟩ : Addr).add o) = cur[o]? := by
  have : (⟨g, 0, none⟩ : Addr).add o = ⟨g, o, none⟩ := by unfold Addr.add; split <;> simp_all
  rw [this]
  simp [World.cell?, h]

theorem ok_load1_own {t : TypeId} {td : TypeDesc} (ht : P.underlying t = some td) (hag : aggD td = false) {x : Operand} {b o : Nat} (hx : ev gid F x = .ptr b o) {e : TypeId} {cs : List V} {c : V} (hv : cs[o]? = some c) :
    OpOK P gid ⟨d, .load t x, ty, pos, aft, gd⟩ F [(b, .own e cs)] [] [] n n c :=
  OpOK.pure fun E ρ H w a h1 h3 h4 => by
    have hb := h1.own.ok b _ (h4 b _ (lk_self _ _))
    have h5 := h3 x (by simp [Op.operands])
    rw [hx] at h5
    simp only [Vr] at h5
    obtain ⟨lc, ad, hl, ha, he⟩ := h5
    obtain ⟨lc', hl', hc⟩ := hb
    rw [hl] at hl'; cases hl'
    rcases hc with ⟨_, _, rfl⟩ | ⟨g, cur, hg, hh, _, hle, hV⟩
    · simp at hv
    · rw [ha] at hg; cases hg
      obtain ⟨v, h6, h7⟩ := hV.get hv
      have h8 : cur[o]? = some v := by
        rw [List.getElem?_take] at h6
        split at h6
        · simpa using h6
        · cases h6
      refine ⟨v, ?_, h7⟩
      simp [execOp, he, Instr.loadAt, Instr.sureAddr, loadVar, run_isAgg ht, hag, (own_cell hh o).trans h8]

theorem ok_loadN_own {t : TypeId} {td : TypeDesc} {i : TypeInfo} (ht : P.underlying t = some td) (hag : aggD td = true) (hi : P.info? t = some i) {x : Operand} {b o : Nat} (hx : ev gid F x = .ptr b o) {e : TypeId} {cs : List V} (hv : o + i.size ≤ cs.length) :
    OpOK P gid ⟨d, .load t x, ty, pos, aft, gd⟩ F [(b, .own e cs)] [] [] n n (.agg ((cs.drop o).take i.size)) :=
  OpOK.pure fun E ρ H w a h1 h3 h4 => by
    have hb := h1.own.ok b _ (h4 b _ (lk_self _ _))
    have h5 := h3 x (by simp [Op.operands])
    rw [hx] at h5
    simp only [Vr] at h5 ⊢
    obtain ⟨lc, ad, hl, ha, he⟩ := h5
    obtain ⟨lc', hl', hc⟩ := hb
    rw [hl] at hl'; cases hl'
    rcases hc with ⟨_, _, rfl⟩ | ⟨g, cur, hg, hh, _, hle, hV⟩
    · have h0 : i.size = 0 := by simp at hv; omega
      refine ⟨.agg #[], ?_, [], rfl, by simp [VrL]⟩
      have hr : (loadCells (ad.add o) 0).run P w = .ok #[] w := run_loadN (vs := []) rfl (by simp)
      simp [execOp, he, Instr.loadAt, Instr.sureAddr, loadVar, run_isAgg ht, hag, sizeOf, typeInfo, hi, h0, hr]
    · rw [ha] at hg; cases hg
      refine ⟨.agg ((cur.toList.drop o).take i.size).toArray, ?_, _, rfl, ?_⟩
      · have hr : (loadCells ((⟨g, 0, none⟩ : Addr).add o) i.size).run P w = .ok ((cur.toList.drop o).take i.size).toArray w := by
          refine run_loadN (by simp; omega) fun j v hj => ?_
          rw [List.getElem?_take] at hj
          split at hj
          · rw [List.getElem?_drop] at hj
            rw [addr_add_add, own_cell hh]
            simpa using hj
          · cases hj
        simp [execOp, he, Instr.loadAt, Instr.sureAddr, loadVar, run_isAgg ht, hag, sizeOf, typeInfo, hi, hr]
      · have h9 := VrL.take i.size (VrL.drop o hV)
        have e1 : ((cur.toList.take cs.length).drop o).take i.size = (cur.toList.drop o).take i.size := by
          rw [List.drop_take, List.take_take, Nat.min_eq_left (by omega)]
        rw [e1] at h9
        exact h9

/-! Stores -/
theorem ok_store {t : TypeId} {i : TypeInfo} (hi : P.info? t = some i) (hpos : 0 < i.size) {x y : Operand} {b o : Nat} (hx : ev gid F x = .ptr b o) {v : V} (hy : ev gid F y = v)
    {e : TypeId} {cs : List V} (hsz : v.cells.length = i.size) (hfl : v.cells.all V.flat = true) (hv : o + i.size ≤ cs.length) :
    OpOK P gid ⟨d, .store t x y, ty, pos, aft, gd⟩ F [] [(b, .own e cs)] [(b, .own e (cs.take o ++ v.cells ++ cs.drop (o + i.size)))] n n .any :=
  OpOK.mk (Nat.le_refl _) fun E ρ H w a h1 hk h3 _ h4 hn => by
    have hHb := h4 b _ (lk_self _ _)
    have hb := h1.own.ok b _ hHb
    have h5 := h3 x (by simp [Op.operands])
    have h6 := h3 y (by simp [Op.operands])
    rw [hx] at h5
    rw [hy] at h6
    simp only [Vr] at h5
    obtain ⟨lc, ad, hl, ha, he⟩ := h5
    obtain ⟨lc', hl', hc⟩ := hb
    rw [hl] at hl'; cases hl'
    rcases hc with ⟨_, _, rfl⟩ | ⟨g, cur, hg, hh, ⟨cap, hcap, hcs, hcm⟩, hle, hV⟩
    · simp at hv; omega
    · rw [ha] at hg; cases hg
      have h7 := Vr_cells h6 hfl
      have h8 := h7.length
      have hsz' : (a.eval y).cells.size = i.size := by rw [← hsz, h8]; simp
      have hst := run_storeCells_at P g o e (a.eval y).cells.toList 0 cur w hh (by simp [hsz']; omega) (flat_cells hfl h7)
      have hadd : (⟨g, 0, none⟩ : Addr).add o = ⟨g, o, none⟩ := by unfold Addr.add; split <;> simp_all
      refine ⟨undef, w.setRow g (cur.toList.take (o + 0) ++ (a.eval y).cells.toList ++ cur.toList.drop (o + 0 + (a.eval y).cells.toList.length)).toArray, ρ, .skip, ?_, .inr ⟨rfl, rfl⟩, ⟨Ext.refl _, fun i hi hi' => absurd hi hi'⟩, ?_, by simp [Vr]⟩
      · simp only [execOp, he, Instr.storeAt, Instr.sureAddr, storeVar, hadd, sizeOf, typeInfo, hi, Sem.run_bind, Sem.run_pure, Result.andThen_ok]
        simp [sizeOf, typeInfo, hi, hsz', hst]
      · refine h1.step ?_ (Ext.refl _) (fun i hi hi' => absurd hi hi') ?_ ?_ ?_ ?_ ?_ ?_
        · exact h4
        · refine (only_setRow w g _).mono fun i hi => ⟨b, _, lk_self _ _, rfl, ?_⟩
          subst hi; simp [at?, hl, ha]
        · intro b' k' hb'
          rw [lk_one] at hb'
          split at hb'
          · rename_i e1; cases hb'; subst e1
            have hlen : (cs.take o ++ v.cells ++ cs.drop (o + i.size)).length = cs.length := by simp [hsz]; omega
            refine ⟨lc, hl, .inr ⟨g, _, ha, setRow_heap w g cur _ e _ hh, ⟨cap, hcap, ?_, hcm⟩, ?_, ?_⟩⟩
            · simp [hsz'] at hle ⊢; omega
            · rw [hlen]; simp [hsz']; omega
            · rw [hlen]
              have e2 : (cur.toList.take (o + 0) ++ (a.eval y).cells.toList ++ cur.toList.drop (o + 0 + (a.eval y).cells.toList.length)).take cs.length =
                  (cur.toList.take cs.length).take o ++ (a.eval y).cells.toList ++ (cur.toList.take cs.length).drop (o + i.size) := by
                have h10 : (a.eval y).cells.toList.length = i.size := by simpa using hsz'
                rw [Nat.add_zero, List.take_append, List.take_append, List.take_take, List.take_take, Nat.min_eq_right (by omega), Nat.min_eq_left (by omega), h10]
                have h11 : (cur.toList.take o).length = o := by simp; omega
                rw [h11, List.take_of_length_le (l := (a.eval y).cells.toList) (by rw [h10]; omega)]
                have h12 : (cur.toList.take o ++ (a.eval y).cells.toList).length = o + i.size := by rw [List.length_append, h11, h10]
                rw [h12, List.drop_take]
              rw [List.toList_toArray, e2]
              exact ((hV.take o).append h7).append (hV.drop _)
          · cases hb'
        · intro b' k' g' hb' hs hg'
          rw [lk_one] at hb'
          split at hb'
          · rename_i e1; cases hb'; subst e1
            exact .inl ⟨b', _, lk_self _ _, rfl, hg'⟩
          · cases hb'
        · intro b1 b2 k1 k2 g' hne hb1 hb2
          rw [lk_one] at hb1 hb2
          split at hb1
          · split at hb2
            · rename_i e1 e2; exact absurd (e1.trans e2.symm) hne
            · cases hb2
          · cases hb1
        · intro b' k' hb'
          rw [lk_one] at hb'
          split at hb'
          · cases hb'; rfl
          · cases hb'
        · intro b' k' hb'
          rw [lk_one] at hb'
          split at hb'
          · cases hb'; rfl
          · cases hb'
end
end
end Go.Abs
