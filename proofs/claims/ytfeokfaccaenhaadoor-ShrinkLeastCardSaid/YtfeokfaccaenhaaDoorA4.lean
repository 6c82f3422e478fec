/- The abstract logic, part 4: rows: append, slices of slices, literals, make. -/
import Derived.Test.YtfeokfaccaenhaaDoorA3
import Derived.Laws.MakeOwn
set_option linter.unusedVariables false
set_option linter.unusedSimpArgs false
namespace Go.Abs
section
variable {P : Program} {gid : Nat → Option Nat}

def Blk.cellsV : Blk → List V
  | .ro l => vals l
  | .own _ cs => cs
  | _ => []
def Blk.sub (k : Blk) (o m : Nat) : List V := (k.cellsV.drop o).take m

theorem read_row {ρ : Env} {w : World} {b : Nat} {k : Blk} (h : BlkOk P ρ w b k) (o m : Nat) (hm : o + m ≤ k.cellsV.length) :
    ∃ vs, VrL ρ (k.sub o m) vs ∧ vs.length = m ∧ (0 < m → ∃ lc a, ρ b = some lc ∧ lc.addr = some a ∧ ∀ j v, vs[j]? = some v → w.cell? ((a.add o).add j) = some v) := by
  cases k with
  | ro l =>
    obtain ⟨lc, hl, hc⟩ := h
    refine ⟨(l.drop o).take m, ?_, by simp [Blk.cellsV] at hm ⊢; omega, fun hpos => ?_⟩
    · simp only [Blk.sub, Blk.cellsV, vals, ← List.map_drop, ← List.map_take]; exact VrL_vals.2 rfl
    · rcases hc with rfl | ⟨a, ha, hc⟩
      · simp [Blk.cellsV] at hm; omega
      · refine ⟨lc, a, hl, ha, fun j v hj => ?_⟩
        rw [List.getElem?_take] at hj
        split at hj
        · rw [List.getElem?_drop] at hj
          rw [addr_add_add]; exact hc _ _ hj
        · cases hj
  | own e cs =>
    obtain ⟨lc, hl, hc⟩ := h
    rcases hc with ⟨_, _, rfl⟩ | ⟨g, cur, hg, hh, _, hle, hV⟩
    · have : m = 0 := by simp [Blk.cellsV] at hm; omega
      subst this
      exact ⟨[], by simp [Blk.sub, VrL], rfl, fun h => absurd h (by omega)⟩
    · refine ⟨((cur.toList.take cs.length).drop o).take m, (hV.drop o).take m, by simp [Blk.cellsV] at hm ⊢; omega, fun _ => ⟨lc, _, hl, hg, fun j v hj => ?_⟩⟩
      rw [List.getElem?_take] at hj
      split at hj
      · rw [List.getElem?_drop, List.getElem?_take] at hj
        split at hj
        · rw [addr_add_add, own_cell hh]; simpa using hj
        · cases hj
      · cases hj
  | mp es => simp [Blk.cellsV] at hm; obtain ⟨rfl, rfl⟩ := hm; exact ⟨[], by simp [Blk.sub, VrL], rfl, fun h => absurd h (by omega)⟩
  | it s p => simp [Blk.cellsV] at hm; obtain ⟨rfl, rfl⟩ := hm; exact ⟨[], by simp [Blk.sub, VrL], rfl, fun h => absurd h (by omega)⟩

/-- A block that goes, and another that comes in its real place or in a new one. -/
theorem WSt.swap1 {E : Ent} {ρ : Env} {H : Hp} {w w' : World} {n b : Nat} {k k' : Blk} {l : Loc} (h : WSt P gid E ρ H w) (hk : E.k ≤ n) (hn : ρ n = none) (hb : H b = some k) (hm : k.mine = true)
    (ho : Only (gone ρ [(b, k)]) w w') (hb' : BlkOk P (eput ρ n l) w' n k') (hm' : k'.mine = true)
    (hpl : ∀ g, l.addr.map (·.block) = some g → at? ρ b = some g ∨ w.heap.size ≤ g) :
    WSt P gid E (eput ρ n l) (upd H [(b, k)] [(n, k')]) w' := by
  refine h.step ?_ (eput_ext hn l) ?_ ho ?_ ?_ ?_ ?_ ?_
  · intro c k1 hc
    rw [lk_one] at hc
    split at hc
    · rename_i e; cases hc; subst e; exact hb
    · cases hc
  · intro c h1 h2
    by_cases e : c = n
    · omega
    · simp [eput, e, h1] at h2
  · intro c k1 hc
    rw [lk_one] at hc
    split at hc
    · rename_i e; cases hc; subst e; exact hb'
    · cases hc
  · intro c k1 g hc hs hg
    rw [lk_one] at hc
    split at hc
    · rename_i e; cases hc; subst e
      rcases hpl g (by simpa [at?] using hg) with h1 | h1
      · exact .inl ⟨b, k, lk_self _ _, hm, h1⟩
      · exact .inr h1
    · cases hc
  · intro b1 b2 k1 k2 g' hne hb1 hb2
    rw [lk_one] at hb1 hb2
    split at hb1
    · split at hb2
      · rename_i e1 e2; exact absurd (e1.trans e2.symm) hne
      · cases hb2
    · cases hb1
  · intro c k1 hc
    rw [lk_one] at hc
    split at hc
    · cases hc; exact hm'
    · cases hc
  · intro c k1 hc
    rw [lk_one] at hc
    split at hc
    · cases hc; exact hm
    · cases hc

theorem run_append_zero (w : World) (t ty e : TypeId) (i : TypeInfo) (ht : P.underlying t = some (.slice e)) (hi : P.info? e = some i) (A B : Option Addr) (sLen sCap c : Nat) (hle : sLen ≤ sCap) :
    (Builtin.append_ #[t, t] ty #[.slice A sLen sCap, .slice B 0 c]).run P w = .ok (.slice A sLen sCap) w := by
  cases A <;> cases B <;> simp [Builtin.append_, run_underlying ht, sizeOf, typeInfo, hi, Builtin.lenOf, hle, Builtin.firstCells, loadCells, loadCellsFrom, storeCells]

/-- WHAT append COMES TO: in the row's own place, or in a new one. -/
theorem run_append_abs (w : World) (t ty e : TypeId) (i : TypeInfo) (z : Value) (ht : P.underlying t = some (.slice e)) (hi : P.info? e = some i) (hz : i.zero = some z)
    (hzs : z.cells.size = i.size) (A : Option Addr) (len cap : Nat) (xs : List Value) (B : Option Addr) (m c : Nat) (news : List Value) (hl : news.length = m * i.size)
    (hA : (A = none ∧ cap = 0 ∧ len = 0 ∧ xs = []) ∨ ∃ g cur, A = some ⟨g, 0, none⟩ ∧ w.heap[g]? = some (.cells cur e (0, 0)) ∧ cur.size = cap * i.size ∧ cap ≤ maxLen ∧ xs.length = len * i.size ∧ len ≤ cap ∧ cur.toList.take xs.length = xs)
    (hnews : 0 < m → ∃ b, B = some b ∧ ∀ j u, news[j]? = some u → w.cell? (b.add j) = some u) (h1 : ∀ u ∈ news, u.oneCell' = true)
    (hsm : len + m ≤ 1000000000) (hby : i.bytes ≤ 100000) :
    ∃ A' cap' w', (Builtin.append_ #[t, t] ty #[.slice A len cap, .slice B m c]).run P w = .ok (.slice A' (len + m) cap') w' ∧ Only (fun g => A.map (·.block) = some g) w w' ∧
      ((A' = none ∧ cap' = 0 ∧ len + m = 0 ∧ xs ++ news = []) ∨ ∃ g cur, A' = some ⟨g, 0, none⟩ ∧ w'.heap[g]? = some (.cells cur e (0, 0)) ∧ cur.size = cap' * i.size ∧ cap' ≤ maxLen ∧ (xs ++ news).length ≤ cur.size ∧ len + m ≤ cap' ∧
        cur.toList.take (xs ++ news).length = xs ++ news ∧ (A = some ⟨g, 0, none⟩ ∨ w.heap.size ≤ g)) := by
  have hbytes : (len + m) * i.bytes ≤ 140737488355328 := by
    have := Nat.mul_le_mul hsm hby
    omega
  have h63 : len + m ≤ maxLen := by simp only [maxLen]; omega
  have grown : ∀ (old : Nat), old < len + m → (xs.length = len * i.size) →
      ∃ g cur, (some ⟨w.heap.size, 0, none⟩ : Option Addr) = some ⟨g, 0, none⟩ ∧ (w.drew.alloc (.cells (xs.toArray ++ news.toArray ++ Builtin.zeroCells z.cells (grownCap w (len + m) old e - (len + m))) e)).heap[g]? = some (.cells cur e (0, 0)) ∧
        cur.size = grownCap w (len + m) old e * i.size ∧ grownCap w (len + m) old e ≤ maxLen ∧ (xs ++ news).length ≤ cur.size ∧ len + m ≤ grownCap w (len + m) old e ∧ cur.toList.take (xs ++ news).length = xs ++ news ∧ (A = some ⟨g, 0, none⟩ ∨ w.heap.size ≤ g) := by
    intro old ho hxl
    have hge := grownCap_ge w (len + m) old e
    have hcm := grownCap_le_maxLen w (len + m) old e h63
    refine ⟨w.heap.size, _, rfl, heap_alloc_new' w.drew _, ?_, hcm, ?_, hge, ?_, .inr (Nat.le_refl _)⟩
    · simp only [Array.size_append, List.size_toArray, size_zeroCells, hzs, hxl, hl, ← Nat.add_mul]
      congr 1
      omega
    · simp only [Array.size_append, List.size_toArray, List.length_append]
      omega
    · simp only [Array.toList_append, List.append_assoc]
      rw [← List.append_assoc]
      exact List.take_left
  by_cases hm : m = 0
  · subst hm
    have hn : news = [] := List.eq_nil_of_length_eq_zero (by simpa using hl)
    subst hn
    refine ⟨A, cap, w, run_append_zero w t ty e i ht hi A B len cap c ?_, Only.refl _ _, ?_⟩
    · rcases hA with ⟨_, rfl, rfl, _⟩ | ⟨g, cur, _, _, _, _, _, h, _⟩ <;> omega
    · rcases hA with ⟨rfl, rfl, rfl, rfl⟩ | ⟨g, cur, rfl, h2, h3, h4, h5, h6, h7⟩
      · exact .inl ⟨rfl, rfl, rfl, rfl⟩
      · refine .inr ⟨g, cur, rfl, h2, h3, h4, ?_, by omega, by simpa using h7, .inl rfl⟩
        simp only [List.append_nil]
        rw [h5, h3]
        exact Nat.mul_le_mul_right _ h6
  · obtain ⟨b, rfl, hb⟩ := hnews (by omega)
    rcases hA with ⟨rfl, rfl, rfl, rfl⟩ | ⟨g, cur, rfl, h2, h3, h4, h5, h6, h7⟩
    · have hr := run_append_nil (P := P) w t ty e i z ht hi hz b m c news hl hb (by omega) (by omega) (by simp only [Nat.zero_add] at hbytes; omega)
      have hgr := grown 0 (by omega) (by simp)
      simp only [Nat.zero_add, List.nil_append, Array.empty_append] at hgr ⊢
      refine ⟨_, _, _, hr, (only_drew w _).trans (only_alloc _ _ _), .inr ?_⟩
      simpa using hgr
    · by_cases hroom : len + m ≤ cap
      · have hfit : len * i.size + news.length ≤ cur.size := by rw [hl, h3, ← Nat.add_mul]; exact Nat.mul_le_mul_right _ hroom
        have hr := run_append_room (P := P) w t ty e i ht hi g len cap cur h2 b m c news hl hb h1 hroom hfit
        refine ⟨_, _, _, hr, (only_setRow w g _).mono fun x hx => by simp [hx], .inr ⟨g, _, rfl, setRow_heap w g cur _ e _ h2, ?_, h4, ?_, hroom, ?_, .inl rfl⟩⟩
        · simp only [List.size_toArray, List.length_append, List.length_take, List.length_drop, Array.length_toList]
          omega
        · simp only [List.size_toArray, List.length_append, List.length_take, List.length_drop, Array.length_toList]
          omega
        · rw [← h5, h7]
          have e1 : (xs ++ news ++ cur.toList.drop (xs.length + news.length)).toArray.toList = (xs ++ news) ++ cur.toList.drop (xs.length + news.length) := by simp
          rw [e1, List.take_left]
      · have holds : ∀ j u, xs[j]? = some u → w.cell? ((⟨g, 0, none⟩ : Addr).add j) = some u := by
          intro j u hu
          rw [own_cell h2]
          rw [← h7, List.getElem?_take] at hu
          split at hu
          · simpa using hu
          · cases hu
        have hr := run_append_grow (P := P) w t ty e i z ht hi hz ⟨g, 0, none⟩ len cap xs h5 holds b m c news hl hb (by omega) (by omega) (growslice_fits (by omega) hbytes)
        exact ⟨_, _, _, hr, (only_drew w _).trans (only_alloc _ _ _), .inr (grown cap (by omega) h5)⟩

section
variable {F : FF} {n : Nat} {d : Option Tmp} {ty : TypeId} {pos : String} {aft : Array Edge} {gd : Option (Nat × Bool)}

theorem ok_append {t e : TypeId} {i : TypeInfo} {z : Value} (ht : P.underlying t = some (.slice e)) (hi : P.info? e = some i) (hz : i.zero = some z) (hzs : z.cells.size = i.size) (hby : i.bytes ≤ 100000)
    {s x : Operand} {b b2 o2 len m : Nat} {cs : List V} {k2 : Blk} (hs : ev gid F s = .sl b 0 len) (hx : ev gid F x = .sl b2 o2 m) (hcs : cs.length = len * i.size) (hk2 : o2 + m * i.size ≤ k2.cellsV.length)
    (hfl : (k2.sub o2 (m * i.size)).all V.flat = true) (hsm : len + m ≤ 1000000000) :
    OpOK P gid ⟨d, .call { callee := .builtin .append, args := #[s, x], argTypes := #[t, t] }, ty, pos, aft, gd⟩ F [(b2, k2)] [(b, .own e cs)] [(n, .own e (cs ++ k2.sub o2 (m * i.size)))] n (n + 1) (.sl n 0 (len + m)) :=
  OpOK.mk (Nat.le_succ _) fun E ρ H w a h1 hk h3 hrd hcsH hn => by
    have hn0 := hn n (Nat.le_refl _) (Nat.lt_succ_self _)
    have hHb := hcsH b _ (lk_self _ _)
    have hHb2 := hrd b2 _ (lk_self _ _)
    have h4 := h3 s (by simp [Op.operands, Call.operands])
    have h5 := h3 x (by simp [Op.operands, Call.operands])
    rw [hs] at h4
    rw [hx] at h5
    simp only [Vr] at h4 h5
    obtain ⟨l, A, c, hl, he, hlc, hA0, _⟩ := h4
    obtain ⟨l2, B, c2, hl2, he2, hlc2, hB0, hB⟩ := h5
    obtain ⟨news, hV2, hlen2, hc2⟩ := read_row (h1.own.ok b2 _ hHb2) o2 (m * i.size) hk2
    have hone : ∀ u ∈ news, u.oneCell' = true := flat_cells hfl hV2
    have hnews : 0 < m → ∃ ad, B = some ad ∧ ∀ j u, news[j]? = some u → w.cell? (ad.add j) = some u := by
      intro hm
      obtain ⟨ad, ha, rfl⟩ := hB hm
      refine ⟨_, rfl, fun j u hj => ?_⟩
      have hpos : 0 < m * i.size := by
        rcases Nat.eq_zero_or_pos (m * i.size) with h0 | h0
        · rw [h0] at hlen2
          have : news = [] := List.eq_nil_of_length_eq_zero hlen2
          subst this
          simp at hj
        · exact h0
      obtain ⟨lc, a', hl', ha', hcell⟩ := hc2 hpos
      rw [hl2] at hl'; cases hl'
      rw [ha] at ha'; cases ha'
      exact hcell j u hj
    obtain ⟨lb, hlb, hbk⟩ := h1.own.ok b _ hHb
    rw [hl] at hlb; cases hlb
    obtain ⟨cap0, hcap0⟩ : ∃ k, l.cap = some k := by
      rcases hbk with ⟨_, h7, _⟩ | ⟨_, _, _, _, ⟨k, h7, _⟩, _⟩
      · exact ⟨_, h7⟩
      · exact ⟨_, h7⟩
    obtain ⟨rfl, rfl⟩ := hA0 trivial _ hcap0
    -- the row itself
    obtain ⟨xs, hVx, hxl, hA⟩ : ∃ xs, VrL ρ cs xs ∧ xs.length = len * i.size ∧ ((l.addr = none ∧ c = 0 ∧ len = 0 ∧ xs = []) ∨ ∃ g cur, l.addr = some ⟨g, 0, none⟩ ∧ w.heap[g]? = some (.cells cur e (0, 0)) ∧ cur.size = c * i.size ∧ c ≤ maxLen ∧ xs.length = len * i.size ∧ len ≤ c ∧ cur.toList.take xs.length = xs) := by
      rcases hbk with ⟨h6, h7, rfl⟩ | ⟨g, cur, h6, h7, ⟨k, hk7, h8, h9⟩, h10, h11⟩
      · rw [hcap0] at h7
        simp at h7
        have : len = 0 := by omega
        subst this
        exact ⟨[], by simp [VrL], by simp, .inl ⟨h6, h7, rfl, rfl⟩⟩
      · rw [hcap0] at hk7
        cases hk7
        have hxl : (cur.toList.take cs.length).length = len * i.size := by rw [← h11.length]; exact hcs
        refine ⟨_, h11, hxl, .inr ⟨g, cur, h6, h7, by rw [h8, cellsOf_eq hi], h9, hxl, hlc, ?_⟩⟩
        rw [← h11.length]
    obtain ⟨A', cap', w', hr, ho, hres⟩ := run_append_abs (P := P) w t ty e i z ht hi hz hzs l.addr len c xs B m c2 news hlen2 hA hnews hone hsm hby
    have hVall : VrL ρ (cs ++ k2.sub o2 (m * i.size)) (xs ++ news) := hVx.append hV2
    refine ⟨.slice A' (len + m) cap', w', eput ρ n ⟨A', some cap'⟩, .value _, ?_, .inl rfl, eput_grow hn0 _, ?_, ?_⟩
    · simp only [execOp, resolve, invoke, builtin, Sem.run_bind, Sem.run_pure, Result.andThen_ok, List.map_toArray, List.map_cons, List.map_nil, he, he2, hr]
    · refine h1.swap1 hk hn0 hHb rfl ?_ ?_ rfl ?_
      · refine ho.mono fun g hg => ⟨b, _, lk_self _ _, rfl, ?_⟩
        simpa [at?, hl] using hg
      · refine ⟨_, eput_self _ _ _, ?_⟩
        have hV3 := VrL.ext (eput_ext hn0 ⟨A', some cap'⟩) _ _ hVall
        rcases hres with ⟨h6, h7, _, h8⟩ | ⟨g, cur, h6, h7, h8, h9, h10, _, h11, _⟩
        · refine .inl ⟨h6, by rw [h7], ?_⟩
          have := hVall.length
          rw [h8] at this
          exact List.eq_nil_of_length_eq_zero (by simpa using this)
        · refine .inr ⟨g, cur, h6, h7, ⟨cap', rfl, by rw [cellsOf_eq hi]; exact h8, h9⟩, by rw [hVall.length]; exact h10, ?_⟩
          rw [hVall.length, h11]
          exact hV3
      · intro g hg
        rcases hres with ⟨h6, h7, _, h8⟩ | ⟨g', cur, h6, h7, h8, h9, h10, _, h11, h12⟩
        · simp [h6] at hg
        · have hgg : g' = g := by simpa [h6] using hg
          subst hgg
          rcases h12 with h12 | h12
          · exact .inl (by simp [at?, hl, h12])
          · exact .inr h12
    · simp only [Vr]
      refine ⟨_, A', cap', eput_self _ _ _, rfl, ?_, fun _ k hk => ⟨rfl, by cases hk; rfl⟩, fun hp => ?_⟩
      · rcases hres with ⟨h6, h7, h8, _⟩ | ⟨g, cur, h6, h7, h8, h9, h10, h13, h11, _⟩ <;> omega
      · rcases hres with ⟨h6, h7, h8, _⟩ | ⟨g, cur, h6, h7, h8, h9, h10, h13, h11, _⟩
        · omega
        · exact ⟨_, h6, by rw [h6]; simp [Addr.add]⟩

theorem ok_append_nil {t e : TypeId} {i : TypeInfo} {z : Value} (ht : P.underlying t = some (.slice e)) (hi : P.info? e = some i) (hz : i.zero = some z) (hzs : z.cells.size = i.size) (hby : i.bytes ≤ 100000)
    {s x : Operand} {b2 o2 m : Nat} {k2 : Blk} (hs : ev gid F s = .val (.slice none 0 0)) (hx : ev gid F x = .sl b2 o2 m) (hk2 : o2 + m * i.size ≤ k2.cellsV.length)
    (hfl : (k2.sub o2 (m * i.size)).all V.flat = true) (hsm : m ≤ 1000000000) :
    OpOK P gid ⟨d, .call { callee := .builtin .append, args := #[s, x], argTypes := #[t, t] }, ty, pos, aft, gd⟩ F [(b2, k2)] [] [(n, .own e (k2.sub o2 (m * i.size)))] n (n + 1) (.sl n 0 m) :=
  OpOK.mk (Nat.le_succ _) fun E ρ H w a h1 hk h3 hrd hcsH hn => by
    have hn0 := hn n (Nat.le_refl _) (Nat.lt_succ_self _)
    have hHb2 := hrd b2 _ (lk_self _ _)
    have he := h3 s (by simp [Op.operands, Call.operands])
    have h5 := h3 x (by simp [Op.operands, Call.operands])
    rw [hs] at he
    rw [hx] at h5
    simp only [Vr] at he h5
    obtain ⟨l2, B, c2, hl2, he2, hlc2, hB0, hB⟩ := h5
    obtain ⟨news, hV2, hlen2, hc2⟩ := read_row (h1.own.ok b2 _ hHb2) o2 (m * i.size) hk2
    have hone : ∀ u ∈ news, u.oneCell' = true := flat_cells hfl hV2
    have hnews : 0 < m → ∃ ad, B = some ad ∧ ∀ j u, news[j]? = some u → w.cell? (ad.add j) = some u := by
      intro hm
      obtain ⟨ad, ha, rfl⟩ := hB hm
      refine ⟨_, rfl, fun j u hj => ?_⟩
      have hpos : 0 < m * i.size := by
        rcases Nat.eq_zero_or_pos (m * i.size) with h0 | h0
        · rw [h0] at hlen2
          have : news = [] := List.eq_nil_of_length_eq_zero hlen2
          subst this
          simp at hj
        · exact h0
      obtain ⟨lc, a', hl', ha', hcell⟩ := hc2 hpos
      rw [hl2] at hl'; cases hl'
      rw [ha] at ha'; cases ha'
      exact hcell j u hj
    obtain ⟨A', cap', w', hr, ho, hres⟩ := run_append_abs (P := P) w t ty e i z ht hi hz hzs none 0 0 [] B m c2 news hlen2 (.inl ⟨rfl, rfl, rfl, rfl⟩) hnews hone (by omega) hby
    simp only [Nat.zero_add, List.nil_append] at hr hres
    refine ⟨.slice A' m cap', w', eput ρ n ⟨A', some cap'⟩, .value _, ?_, .inl rfl, eput_grow hn0 _, ?_, ?_⟩
    · simp only [execOp, resolve, invoke, builtin, Sem.run_bind, Sem.run_pure, Result.andThen_ok, List.map_toArray, List.map_cons, List.map_nil, he, he2, hr]
    · refine h1.new hk hn0 ?_ (ho.mono fun g hg => by simp at hg) ?_ rfl
      · intro g hg
        rcases hres with ⟨h6, _⟩ | ⟨g', cur, h6, h7, h8, h9, h10, _, h11, h12⟩
        · simp [h6] at hg
        · have hgg : g' = g := by simpa [h6] using hg
          subst hgg
          rcases h12 with h12 | h12
          · cases h12
          · exact h12
      · refine ⟨_, eput_self _ _ _, ?_⟩
        have hV3 := VrL.ext (eput_ext hn0 ⟨A', some cap'⟩) _ _ hV2
        rcases hres with ⟨h6, h7, _, h8⟩ | ⟨g, cur, h6, h7, h8, h9, h10, _, h11, _⟩
        · refine .inl ⟨h6, by rw [h7], ?_⟩
          have := hV2.length
          rw [h8] at this
          exact List.eq_nil_of_length_eq_zero (by simpa using this)
        · refine .inr ⟨g, cur, h6, h7, ⟨cap', rfl, by rw [cellsOf_eq hi]; exact h8, h9⟩, by rw [hV2.length]; exact h10, ?_⟩
          rw [hV2.length, h11]
          exact hV3
    · simp only [Vr]
      refine ⟨_, A', cap', eput_self _ _ _, rfl, ?_, fun _ k hk => ⟨rfl, by cases hk; rfl⟩, fun hp => ?_⟩
      · rcases hres with ⟨h6, h7, h8, _⟩ | ⟨g, cur, h6, h7, h8, h9, h10, h13, h11, _⟩ <;> omega
      · rcases hres with ⟨h6, h7, h8, _⟩ | ⟨g, cur, h6, h7, h8, h9, h10, h13, h11, _⟩
        · omega
        · exact ⟨_, h6, by rw [h6]; simp [Addr.add]⟩

/-! x[lo:hi] of a row, within its length -/
theorem run_bounds (len cap : Nat) (lo hi : Option Value) (l h : Nat) (hlo : (lo = none ∧ l = 0) ∨ ∃ k, lo = some (.int k (l : Int))) (hhi : (hi = none ∧ h = len) ∨ ∃ k, hi = some (.int k (h : Int))) (h1 : l ≤ h) (h2 : h ≤ len) (h3 : len ≤ cap) (w : World) :
    (Instr.sliceBounds true len cap lo hi none).run P w = .ok (l, h, cap) w := by
  have e1 : (0 : Int) ≤ (h : Int) ∧ (h : Int) ≤ (cap : Int) := ⟨by omega, by omega⟩
  have e2 : (0 : Int) ≤ (l : Int) ∧ (l : Int) ≤ (h : Int) := ⟨by omega, by omega⟩
  have g1 : h ≤ cap := by omega
  rcases hlo with ⟨rfl, rfl⟩ | ⟨k, rfl⟩ <;> rcases hhi with ⟨rfl, rfl⟩ | ⟨k', rfl⟩ <;> simp [Instr.sliceBounds, Instr.sliceBound, asIntOf, h1, g1]

theorem ok_slice {t e : TypeId} {i : TypeInfo} (ht : P.underlying t = some (.slice e)) (hi : P.info? e = some i) (hpos : 0 < i.size) {x : Operand} {lo hi' : Option Operand} {b o len l h : Nat} (hx : ev gid F x = .sl b o len)
    (hlo : (lo = none ∧ l = 0) ∨ ∃ y k, lo = some y ∧ ev gid F y = .val (.int k (l : Int))) (hhi : (hi' = none ∧ h = len) ∨ ∃ y k, hi' = some y ∧ ev gid F y = .val (.int k (h : Int))) (h1 : l ≤ h) (h2 : h ≤ len) :
    OpOK P gid ⟨d, .slice t x lo hi' none, ty, pos, aft, gd⟩ F [] [] [] n n (.sl b (o + l * i.size) (h - l)) :=
  OpOK.pure fun E ρ H w a hw h3 _ => by
    have h4 := h3 x (by simp [Op.operands])
    rw [hx] at h4
    simp only [Vr] at h4 ⊢
    obtain ⟨lc, A, c, hl, he, hc, hA0, hA⟩ := h4
    have hlo' : (lo.map a.eval = none ∧ l = 0) ∨ ∃ k, lo.map a.eval = some (.int k (l : Int)) := by
      rcases hlo with ⟨rfl, rfl⟩ | ⟨y, k, rfl, hy⟩
      · exact .inl ⟨rfl, rfl⟩
      · have := h3 y (by simp [Op.operands])
        rw [hy] at this
        simp only [Vr] at this
        exact .inr ⟨k, by simp [this]⟩
    have hhi' : (hi'.map a.eval = none ∧ h = len) ∨ ∃ k, hi'.map a.eval = some (.int k (h : Int)) := by
      rcases hhi with ⟨rfl, rfl⟩ | ⟨y, k, rfl, hy⟩
      · exact .inl ⟨rfl, rfl⟩
      · have := h3 y (by simp [Op.operands])
        rw [hy] at this
        simp only [Vr] at this
        exact .inr ⟨k, by simp [this]⟩
    have hb := run_bounds (P := P) len c _ _ l h hlo' hhi' h1 h2 hc w
    refine ⟨.slice (if c = l then A else A.map (·.add (l * i.size))) (h - l) (c - l), ?_, lc, _, _, hl, rfl, by omega, fun h0 k hk => ?_, fun hp => ?_⟩
    · simp [execOp, he, Instr.sliceAt, Instr.slice, run_underlying ht, hb, sizeOf, typeInfo, hi]
    · have ho : o = 0 := by omega
      have hl0 : l = 0 := by
        rcases Nat.eq_zero_or_pos l with h | h
        · exact h
        · have := Nat.mul_pos h hpos
          omega
      subst ho; subst hl0
      obtain ⟨rfl, rfl⟩ := hA0 rfl k hk
      refine ⟨?_, by simp⟩
      split
      · rfl
      · cases lc.addr <;> simp [Addr.add]
    · obtain ⟨ad, ha, rfl⟩ := hA (by omega)
      refine ⟨ad, ha, ?_⟩
      rw [if_neg (by omega)]
      simp [addr_add_add]

/-! Literals -/
def fillV (z : List V) : List (Nat × V) → List V
  | [] => z
  | (o, v) :: r => fillV (z.take o ++ v.cells ++ z.drop (o + v.cells.length)) r
def fillOk (len : Nat) : List (Nat × V) → Prop
  | [] => True
  | (o, v) :: r => o + v.cells.length ≤ len ∧ v.cells.all V.flat = true ∧ fillOk len r
end
end
end Go.Abs
