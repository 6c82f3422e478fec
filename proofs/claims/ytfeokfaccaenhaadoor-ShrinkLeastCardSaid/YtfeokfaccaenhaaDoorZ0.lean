/- From contracts to rows: what comes in, opened; a call that only reads, and comes to true. -/
import Derived.Test.YtfeokfaccaenhaaDoorB6
import Derived.ProofKit
import Derived.ChangeShapes
import Derived.OpenShut
import Derived.Deep.Slices
import Derived.Carry
import Derived.DataReads
set_option linter.unusedVariables false
set_option linter.unusedSimpArgs false
namespace Go.Abs
open Go.ChangeShapes Go.WideShapes Go.ChangeAt Go.RowKit Go.WideElems Go.Deep
def envOf (locs : List (Option Loc)) : Env := fun i => (locs[i]?).join
theorem addr_at (g i : Nat) : (⟨g, 0, none⟩ : Addr).add i = ⟨g, i, none⟩ := by unfold Addr.add; split <;> simp_all
/-- A call that only reads, and comes to true. -/
theorem bridge {P : Program} {gid : Nat → Option Nat} {f k n1 : Nat} {args : List V} {F0 : FH} (h : FnOK P gid f k args (hl F0) (vb true) (hl []) n1) (hro : ∀ p ∈ F0, p.2.isRo = true) (locs : List (Option Loc)) (hk : locs.length = k)
    {W : World} {xs : List Value} (hg : ∀ g id, gid g = some id → ∃ c, locs[id]? = some (some ⟨some ⟨g, 0, none⟩, c⟩)) (hb : ∀ b l, (b, FB.ro l) ∈ F0 → BlkOk P (envOf locs) W b (.ro l)) (hx : VrL (envOf locs) args xs) :
    Calls P f xs.toArray W fun e W' => e = .returned (.bool true) ∧ Below W.heap.size W W' := by
  have hkm : ∀ b k', lk (hl F0) b = some k' → k'.mine = false ∧ BlkOk P (envOf locs) W b k' := by
    intro b k' hb'
    obtain ⟨x, hx, rfl⟩ := lk_hl hb'
    have h1 := hro _ hx
    cases x <;> simp [FB.isRo] at h1
    exact ⟨rfl, hb _ _ hx⟩
  refine (h.runs (envOf locs) W xs ⟨fun b k' hb' => (hkm b k' hb').2, fun b b' k1 k2 g _ hb1 _ hm => by rw [(hkm b k1 hb1).1] at hm; cases hm⟩ (fun i hi => by simp [envOf, List.getElem?_eq_none (by omega : locs.length ≤ i)]) (fun g id hid => ?_) hx).mono fun e w' ⟨x, ρ', he, hw, hn, hv⟩ => ?_
  · obtain ⟨c, hc⟩ := hg g id hid
    exact ⟨by rw [← hk]; exact (List.getElem?_eq_some_iff.1 hc).1, c, by simp [envOf, hc]⟩
  · simp only [Vr] at hv
    subst hv
    refine ⟨he, hw.kept.os, hw.kept.tape, hw.kept.output, hw.kept.size, fun g hg => hw.kept.block g hg ?_⟩
    rintro ⟨b, k', hb', hm, _⟩
    rw [(hkm b k' hb').1] at hm
    cases hm

section
variable {H : Type} {enc : TypeId × Value → H} {P : Program} {w : World} {base : Nat} {spare : Nat → Bool} {held : Bool}
/-- A struct of six integers. -/
theorem open_ins {e : TypeId} {fs : Array Field} (hs : P.underlying e = some (.struct fs)) (hf : fs.toList.map (fun f => (P.underlying f.type, f.offset, P.cellsOf f.type)) = (List.range 6).map fun i => (some (.int .i64), i, 1)) (hc : P.cellsOf e = 6)
    {fuel : Nat} {cs : List Value} {x : DataW H × List MemPlace} (h : DataW.trod enc P w base spare held fuel e cs = some x) : ∃ y : Ins, cs = y.cells := by
  obtain ⟨xs, n, _, _, hl, _, hx⟩ := DataW.trod_struct hs h
  rw [hc] at hl
  have get : ∀ i, i < 6 → ∃ z : Int, (cs.drop i).take 1 = [.int .i64 z] := by
    intro i hi
    have hlen : fs.toList.length = 6 := by have := congrArg List.length hf; simpa using this
    have hi' : i < fs.toList.length := by omega
    have h1 : (fs.toList.map (fun f => (P.underlying f.type, f.offset, P.cellsOf f.type)))[i]? = some (some (.int .i64), i, 1) := by rw [hf]; simp [hi]
    rw [List.getElem?_map, List.getElem?_eq_getElem hi'] at h1
    simp only [Option.map_some, Option.some.injEq, Prod.mk.injEq] at h1
    have h2 := hx i fs.toList[i] (by rw [← Array.getElem?_toList]; exact List.getElem?_eq_getElem hi')
    rw [h1.2.1, h1.2.2] at h2
    cases hxi : xs[i]? with
    | none =>
      have : xs.length = fs.size := by assumption
      have h3 := List.getElem?_eq_none_iff.1 hxi
      simp at hi'
      omega
    | some y =>
      rw [hxi] at h2
      obtain ⟨z, h4, _⟩ := DataW.trod_int h1.1 h2
      exact ⟨z, h4⟩
  match cs, hl with
  | [a, b, c, d, e', f'], _ =>
    obtain ⟨z0, h0⟩ := get 0 (by decide)
    obtain ⟨z1, h1⟩ := get 1 (by decide)
    obtain ⟨z2, h2⟩ := get 2 (by decide)
    obtain ⟨z3, h3⟩ := get 3 (by decide)
    obtain ⟨z4, h4⟩ := get 4 (by decide)
    obtain ⟨z5, h5⟩ := get 5 (by decide)
    simp at h0 h1 h2 h3 h4 h5
    exact ⟨⟨z0, z1, z2, z3, z4, z5⟩, by simp [Ins.cells, i64, h0, h1, h2, h3, h4, h5]⟩

/-- Rows of things that lie some cells apart. -/
theorem choose_list {α : Type} : ∀ {n : Nat} {p : Nat → α → Prop}, (∀ i, i < n → ∃ x, p i x) → ∃ l : List α, l.length = n ∧ ∀ i x, l[i]? = some x → p i x
  | 0, p, _ => ⟨[], rfl, fun i x h => by simp at h⟩
  | n + 1, p, h => by
    obtain ⟨l, h1, h2⟩ := choose_list (n := n) (p := p) fun i hi => h i (by omega)
    obtain ⟨x, hx⟩ := h n (Nat.lt_succ_self n)
    refine ⟨l ++ [x], by simp [h1], fun i y hy => ?_⟩
    rw [List.getElem?_append] at hy
    split at hy
    · exact h2 i y hy
    · rename_i hge
      have : i = n := by
        have := (List.getElem?_eq_some_iff.1 hy).1
        simp at this
        omega
      subst this
      rw [h1] at hy
      simp at hy
      subst hy
      exact hx

/-- A slice of instructions that came in. -/
theorem open_code {t e : TypeId} {fs : Array Field} (ht : P.underlying t = some (.slice e)) (hs : P.underlying e = some (.struct fs)) (hf : fs.toList.map (fun f => (P.underlying f.type, f.offset, P.cellsOf f.type)) = (List.range 6).map fun i => (some (.int .i64), i, 1)) (hc : P.cellsOf e = 6)
    {A : Option Addr} {len cap : Nat} {d : DataW H} {ps : List MemPlace} (h : DataW.Trod enc P w base spare held t (.slice A len cap) d ps) :
    ∃ f : List Ins, f.length = len ∧ len ≤ cap ∧ (f = [] ∨ ∃ a, A = some a ∧ ∀ i v, (insCells f)[i]? = some v → w.cell? (a.add i) = some v) := by
  obtain ⟨fuel, hfu⟩ := h
  have hcell : (Value.slice A len cap).cells.toList = [.slice A len cap] := rfl
  rw [hcell] at hfu
  rcases open_slice ht hfu with ⟨h1, _⟩ | ⟨a, len', cap', m, n, D, Pl, h1, _, hle, _, hm, _, hel⟩
  · simp at h1
    obtain ⟨rfl, rfl, rfl⟩ := h1
    exact ⟨[], rfl, Nat.le_refl _, .inl rfl⟩
  · simp at h1
    obtain ⟨rfl, rfl, rfl⟩ := h1
    have hlm : len ≤ m := by rw [hm]; split <;> omega
    obtain ⟨f, hfl, hf2⟩ := choose_list (n := len) (p := fun i (x : Ins) => ∀ j, j < 6 → w.cell? ((a.add (i * 6)).add j) = x.cells[j]?) fun i hi => by
      obtain ⟨cs, h2, h3⟩ := hel i (by omega)
      rw [hc] at h2
      obtain ⟨_, hl, h4⟩ := World.cells?_some h2
      obtain ⟨y, rfl⟩ := open_ins hs hf hc h3
      exact ⟨y, h4⟩
    refine ⟨f, hfl, hle, .inr ⟨a, rfl, fun i v hv => ?_⟩⟩
    have hlt : i < (insCells f).length := (List.getElem?_eq_some_iff.1 hv).1
    rw [insCells_len] at hlt
    have hq : i / 6 < f.length := by omega
    have hx := List.getElem?_eq_getElem hq
    have h5 := hf2 (i / 6) _ hx (i % 6) (Nat.mod_lt _ (by decide))
    rw [add_add, show i / 6 * 6 + i % 6 = i by omega] at h5
    rw [h5, ← hv]
    have h6 := insCells_at hx
    have h7 : (((insCells f).drop (i / 6 * 6)).take 6)[i % 6]? = f[i / 6].cells[i % 6]? := by rw [h6]
    rw [List.getElem?_take_of_lt (Nat.mod_lt _ (by decide)), List.getElem?_drop, show i / 6 * 6 + i % 6 = i by omega] at h7
    exact h7.symm
end

/-- A slice that came in, as a value and as a block. -/
theorem slice_vr {P : Program} {locs : List (Option Loc)} {W : World} {b len cap : Nat} {A : Option Addr} (hb : locs[b]? = some (some ⟨A, none⟩)) (hle : len ≤ cap) (hA : 0 < len → ∃ a, A = some a) : Vr (envOf locs) (.sl b 0 len) (.slice A len cap) := by
  simp only [Vr]
  refine ⟨⟨A, none⟩, A, cap, by simp [envOf, hb], rfl, hle, fun _ k hk => (by cases hk), fun h => ?_⟩
  obtain ⟨a, rfl⟩ := hA h
  exact ⟨a, rfl, by simp [Addr.add]⟩
theorem slice_blk {P : Program} {locs : List (Option Loc)} {W : World} {b : Nat} {A : Option Addr} {l : List Value} (hb : locs[b]? = some (some ⟨A, none⟩)) (h : l = [] ∨ ∃ a, A = some a ∧ ∀ i v, l[i]? = some v → W.cell? (a.add i) = some v) : BlkOk P (envOf locs) W b (.ro l) :=
  ⟨⟨A, none⟩, by simp [envOf, hb], h⟩
theorem code_blk {l : List Ins} {A : Option Addr} {W : World} (h : l = [] ∨ ∃ a, A = some a ∧ ∀ i v, (insCells l)[i]? = some v → W.cell? (a.add i) = some v) : insCells l = [] ∨ ∃ a, A = some a ∧ ∀ i v, (insCells l)[i]? = some v → W.cell? (a.add i) = some v :=
  h.imp (fun e => by rw [e]; rfl) id
theorem code_addr {l : List Ins} {A : Option Addr} {W : World} (h : l = [] ∨ ∃ a, A = some a ∧ ∀ i v, (insCells l)[i]? = some v → W.cell? (a.add i) = some v) (hl : 0 < l.length) : ∃ a, A = some a := by
  rcases h with rfl | ⟨a, ha, _⟩
  · cases hl
  · exact ⟨a, ha⟩
theorem gid_locs {g id : Nat} (h : gidD g = some id) {r : List (Option Loc)} : ∃ c, (some ⟨some ⟨1, 0, none⟩, none⟩ :: some ⟨some ⟨0, 0, none⟩, none⟩ :: r : List (Option Loc))[id]? = some (some ⟨some ⟨g, 0, none⟩, c⟩) := by
  unfold gidD at h
  split at h
  · cases h; exact ⟨none, rfl⟩
  · cases h; exact ⟨none, rfl⟩
  · cases h
end Go.Abs
