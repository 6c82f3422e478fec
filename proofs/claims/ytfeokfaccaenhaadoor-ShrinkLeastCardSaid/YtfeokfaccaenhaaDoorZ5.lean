/- What comes in: rows of integers, cases. -/
import Derived.Test.YtfeokfaccaenhaaDoorZ1
import Derived.Test.YtfeokfaccaenhaaDoorE26
import Derived.Lib.SmallJoins
set_option linter.unusedVariables false
set_option linter.unusedSimpArgs false
namespace Go.Abs
open Go.ChangeShapes Go.WideShapes Go.ChangeAt Go.RowKit Go.WideElems Go.Deep Go.Joins
section
variable {H : Type} {enc : TypeId × Value → H} {P : Program} {w : World} {base : Nat} {spare : Nat → Bool} {held : Bool}
/-- What a row that came in has. -/
def rowIn (w : World) (A : Option Addr) (l : List Value) : Prop := l = [] ∨ ∃ a, A = some a ∧ ∀ i v, l[i]? = some v → w.cell? (a.add i) = some v
theorem open_nums {t e : TypeId} (ht : P.underlying t = some (.slice e)) (he : P.underlying e = some (.int .i64)) (hc : P.cellsOf e = 1) {fuel : Nat} {cs : List Value} {x : DataW H × List MemPlace} (h : DataW.trod enc P w base spare held fuel t cs = some x) :
    ∃ (A : Option Addr) (l : List Int) (cap : Nat), cs = [.slice A l.length cap] ∧ l.length ≤ cap ∧ rowIn w A (nums l) := by
  rcases open_slice ht h with ⟨rfl, _⟩ | ⟨a, len, cap, m, n, D, Pl, rfl, _, hle, _, hm, _, hel⟩
  · exact ⟨none, [], 0, rfl, Nat.le_refl _, .inl rfl⟩
  · have hlm : len ≤ m := by rw [hm]; split <;> omega
    obtain ⟨l, hl, hl2⟩ := choose_list (n := len) (p := fun i (z : Int) => w.cell? (a.add i) = some (i64 z)) fun i hi => by
      obtain ⟨cs, h2, h3⟩ := hel i (by omega)
      rw [hc] at h2
      obtain ⟨_, _, h4⟩ := World.cells?_some h2
      obtain ⟨z, rfl, _⟩ := DataW.trod_int he h3
      have := h4 0 (by decide)
      rw [add_add, Nat.mul_one, Nat.add_zero] at this
      exact ⟨z, this⟩
    subst hl
    refine ⟨some a, l, cap, rfl, hle, .inr ⟨a, rfl, fun i v hv => ?_⟩⟩
    simp only [nums, List.getElem?_map] at hv
    cases hz : l[i]? with
    | none => rw [hz] at hv; cases hv
    | some z =>
      rw [hz] at hv
      cases hv
      exact hl2 i z hz
/-- A case that came in. -/
theorem open_case {t ta ts : TypeId} {f0 f1 f2 f3 : Field} (ht : P.underlying t = some (.struct #[f0, f1, f2, f3])) (h0 : P.underlying f0.type = some (.array 8 ta)) (hta : P.underlying ta = some (.int .i64)) (h1 : P.underlying f1.type = some (.slice ts)) (h2 : P.underlying f2.type = some (.slice ts))
    (hts : P.underlying ts = some (.int .i64)) (h3 : P.underlying f3.type = some (.int .i64)) (ho : (f0.offset, f1.offset, f2.offset, f3.offset) = (0, 8, 9, 10))
    (hc : (P.cellsOf t, P.cellsOf f0.type, P.cellsOf f1.type, P.cellsOf f2.type, P.cellsOf f3.type, P.cellsOf ta, P.cellsOf ts) = (11, 8, 1, 1, 1, 1, 1)) {arr : Array Value} {d : DataW H} {ps : List MemPlace} (h : DataW.Trod enc P w base spare held t (.agg arr) d ps) :
    ∃ (c : Cas) (A B : Option Addr) (k1 k2 : Nat), c.R.length = 8 ∧ arr = (nums c.R ++ [.slice A c.H.length k1, .slice B c.A.length k2, i64 c.fuel]).toArray ∧ c.H.length ≤ k1 ∧ rowIn w A (nums c.H) ∧ c.A.length ≤ k2 ∧ rowIn w B (nums c.A) := by
  obtain ⟨fuel, hfu⟩ := h
  have hcell : (Value.agg arr).cells.toList = arr.toList := rfl
  rw [hcell] at hfu
  simp only [Prod.mk.injEq] at ho hc
  obtain ⟨o0, o1, o2, o3⟩ := ho
  obtain ⟨ct, c0, c1, c2, c3, cta, cts⟩ := hc
  obtain ⟨y0, y1, y2, y3, n, _, hl, g0, g1, g2, g3⟩ := trod_struct4 ht hfu
  rw [o0, c0] at g0
  rw [o1, c1] at g1
  rw [o2, c2] at g2
  rw [o3, c3] at g3
  rw [ct] at hl
  obtain ⟨xs, m, _, _, _, hxl, hel⟩ := DataW.trod_array h0 g0
  obtain ⟨A, lH, k1, e1, le1, r1⟩ := open_nums h1 hts cts g1
  obtain ⟨B, lA, k2, e2, le2, r2⟩ := open_nums h2 hts cts g2
  obtain ⟨fz, e3, _⟩ := DataW.trod_int h3 g3
  have hR : ∀ i, i < 8 → ∃ z : Int, ((arr.toList.drop 0).take 8 |>.drop i).take 1 = [i64 z] := by
    intro i hi
    have h4 := hel i hi
    rw [cta, Nat.mul_one] at h4
    cases hxi : xs[i]? with
    | none => have := List.getElem?_eq_none_iff.1 hxi; omega
    | some y =>
      rw [hxi] at h4
      obtain ⟨z, h5, _⟩ := DataW.trod_int hta h4
      exact ⟨z, h5⟩
  obtain ⟨z0, q0⟩ := hR 0 (by decide)
  obtain ⟨z1, q1⟩ := hR 1 (by decide)
  obtain ⟨z2, q2⟩ := hR 2 (by decide)
  obtain ⟨z3, q3⟩ := hR 3 (by decide)
  obtain ⟨z4, q4⟩ := hR 4 (by decide)
  obtain ⟨z5, q5⟩ := hR 5 (by decide)
  obtain ⟨z6, q6⟩ := hR 6 (by decide)
  obtain ⟨z7, q7⟩ := hR 7 (by decide)
  clear hR hel hfu hcell g0 g1 g2 g3
  refine ⟨⟨[z0, z1, z2, z3, z4, z5, z6, z7], lH, lA, fz⟩, A, B, k1, k2, rfl, ?_, le1, r1, le2, r2⟩
  obtain ⟨l⟩ := arr
  simp only at hl e1 e2 e3 q0 q1 q2 q3 q4 q5 q6 q7
  match l, hl with
  | [b0, b1, b2, b3, b4, b5, b6, b7, b8, b9, b10], _ =>
    simp at e1 e2 e3 q0 q1 q2 q3 q4 q5 q6 q7
    simp [nums, e1, e2, e3, q0, q1, q2, q3, q4, q5, q6, q7, i64]
end
theorem row_vr {P : Program} {locs : List (Option Loc)} {W : World} {b cap : Nat} {A : Option Addr} {l : List Int} (hb : locs[b]? = some (some ⟨A, none⟩)) (hle : l.length ≤ cap) (hr : rowIn W A (nums l)) : Vr (envOf locs) (.sl b 0 l.length) (.slice A l.length cap) :=
  slice_vr (P := P) (W := W) hb hle fun h => by
    rcases hr with h1 | ⟨a, ha, _⟩
    · have h2 := congrArg List.length h1; rw [nums_len] at h2; have h3 : ([] : List Value).length = 0 := rfl; omega
    · exact ⟨a, ha⟩
theorem case_vr {P : Program} {locs : List (Option Loc)} {W : World} {kh ka k1 k2 : Nat} {A B : Option Addr} {c : Cas} (hb1 : locs[kh]? = some (some ⟨A, none⟩)) (hb2 : locs[ka]? = some (some ⟨B, none⟩)) (l1 : c.H.length ≤ k1) (l2 : c.A.length ≤ k2) (r1 : rowIn W A (nums c.H)) (r2 : rowIn W B (nums c.A)) :
    Vr (envOf locs) (caV kh ka c) (.agg (nums c.R ++ [.slice A c.H.length k1, .slice B c.A.length k2, i64 c.fuel]).toArray) := by
  unfold caV caC
  simp only [Vr]
  refine ⟨_, rfl, VrL.append (VrL_vals.2 rfl) ?_⟩
  simp only [VrL]
  exact ⟨row_vr (P := P) hb1 l1 r1, row_vr (P := P) hb2 l2 r2, by simp only [Vr], trivial⟩
end Go.Abs
