/- What the listed variable gives; the program's closed facts. -/
import Derived.Test.YtfeokfaccaenhaaDoorZ0
import Derived.Test.YtfeokfaccaenhaaDoorRows
import Derived.Test.YtfeokfaccaenhaaDoorTie
import Derived.Test.YtfeokfaccaenhaaDoorCards
import Derived.LaidMore
import Derived.LaidLaws
import Derived.MakeChecks
import Derived.Handed
import Derived.SevenTiedAt
set_option linter.unusedVariables false
set_option linter.unusedSimpArgs false
set_option maxRecDepth 100000
namespace Go.Proofs.YtfeokfaccaenhaaDoor
open Go.Abs Go.ChangeShapes Go.WideShapes Go.ChangeAt Go.RowKit Go.WideElems Go.Deep Go.MakeChecks
theorem own : ownKnob Tryd.prog.godebug = none := by kernel_rfl
theorem laidOut : laidOutB Tryd.prog = true := by kernel_rfl
theorem gShapes : Tryd.prog.globalNamed "joinery/ins.shapes" = some 1 := by kernel_rfl
theorem tShapes : (Tryd.prog.globals[1]?).map (·.type) = some 231 := by kernel_rfl
/-- A struct of two strings. -/
theorem open_two {H : Type} {enc : TypeId × Value → H} {P : Program} {w : World} {base : Nat} {spare : Nat → Bool} {held : Bool} {e : TypeId} {f0 f1 : Field} (hs : P.underlying e = some (.struct #[f0, f1])) (h0 : P.underlying f0.type = some .string) (h1 : P.underlying f1.type = some .string)
    (ho0 : f0.offset = 0) (ho1 : f1.offset = 1) (hc : P.cellsOf e = 2) (hc0 : P.cellsOf f0.type = 1) (hc1 : P.cellsOf f1.type = 1) {fuel : Nat} {cs : List Value} {a b : List UInt8} {ps : List MemPlace}
    (h : DataW.trod enc P w base spare held fuel e cs = some (.agg [.lit (.string a), .lit (.string b)], ps)) : cs = [.string ⟨a.toArray⟩, .string ⟨b.toArray⟩] := by
  obtain ⟨y0, y1, n, hx, hl, h2, h3⟩ := trod_struct2 hs h
  rw [ho0, hc0] at h2
  rw [ho1, hc1] at h3
  obtain ⟨t0, e0, rfl, _⟩ := DataW.trod_string h0 h2
  obtain ⟨t1, e1, rfl, _⟩ := DataW.trod_string h1 h3
  simp at hx
  rw [hc] at hl
  match cs, hl with
  | [u, v], _ =>
    simp at e0 e1
    rw [e0, e1, hx.1.1, hx.1.2]
/-- THE TABLE OF SHAPES, as the condition gives it. -/
theorem shapes_laid {W : World} {rest : List (String × DataW Unit)} (h : laidMet Tryd.prog (("joinery/ins.shapes", Rows.laid_joinery_ins_shapes) :: rest) W) : ∀ i v, shapesV[i]? = some v → W.cell? ⟨1, i, none⟩ = some v := by
  obtain ⟨ps, ⟨g0, t0, cs0, f0, p0, q0, hg0, ht0, hv0, hd0, _⟩, _⟩ := h
  obtain rfl := Option.some.inj (gShapes.symm.trans hg0)
  obtain rfl := Option.some.inj (tShapes.symm.trans ht0)
  obtain ⟨xs, m, _, hx, hl, hn, hel⟩ := DataW.trod_array (n := 18) (e := 184) (by kernel_rfl) hd0
  have ce : Tryd.prog.cellsOf 184 = 2 := by kernel_rfl
  have ct : Tryd.prog.cellsOf 231 = 36 := by kernel_rfl
  rw [ce] at hel
  rw [ct] at hl
  simp only [Rows.laid_joinery_ins_shapes, Prod.mk.injEq, DataW.agg.injEq] at hx
  have hxs := hx.1
  have two : ∀ (i : Nat) (a b : List UInt8), i < 18 → (xs.map (·.1))[i]? = some (.agg [.lit (.string a), .lit (.string b)]) → (cs0.toList.drop (i * 2)).take 2 = [.string ⟨a.toArray⟩, .string ⟨b.toArray⟩] := by
    intro i a b hi hab
    have h1 := hel i hi
    rw [List.getElem?_map] at hab
    cases hxi : xs[i]? with
    | none => rw [hxi] at hab; cases hab
    | some y =>
      rw [hxi] at h1 hab
      simp only [Option.map_some, Option.some.injEq] at hab
      obtain ⟨y1, y2⟩ := y
      simp only at hab
      subst hab
      exact open_two Tryd.underlying184 Tryd.underlying9 Tryd.underlying9 rfl rfl ce (by kernel_rfl) (by kernel_rfl) h1
  have all : ∀ i, i < 18 → (cs0.toList.drop (i * 2)).take 2 = (shapesV.drop (i * 2)).take 2 := by
    intro i hi
    have hc : i = 0 ∨ i = 1 ∨ i = 2 ∨ i = 3 ∨ i = 4 ∨ i = 5 ∨ i = 6 ∨ i = 7 ∨ i = 8 ∨ i = 9 ∨ i = 10 ∨ i = 11 ∨ i = 12 ∨ i = 13 ∨ i = 14 ∨ i = 15 ∨ i = 16 ∨ i = 17 := by omega
    rcases hc with rfl | rfl | rfl | rfl | rfl | rfl | rfl | rfl | rfl | rfl | rfl | rfl | rfl | rfl | rfl | rfl | rfl | rfl
    all_goals exact two _ _ _ (by decide) (by rw [← hxs]; rfl)
  intro i v hv
  have hlt : i < 36 := (List.getElem?_eq_some_iff.1 hv).1
  have h1 := World.var?_cell hg0 hv0 i
  rw [h1, ← hv, ← Array.getElem?_toList]
  have h2 := congrArg (·[i % 2]?) (all (i / 2) (by omega))
  rw [List.getElem?_take_of_lt (Nat.mod_lt _ (by decide)), List.getElem?_drop, show i / 2 * 2 + i % 2 = i by omega] at h2
  rw [List.getElem?_take_of_lt (Nat.mod_lt _ (by decide)), List.getElem?_drop, show i / 2 * 2 + i % 2 = i by omega] at h2
  exact h2
/-- The door's own heap meets the condition. -/
theorem door_met (os : Os) (args : Array Value) : laidMetH Tryd.prog [("joinery/ins.shapes", Rows.laid_joinery_ins_shapes)] ((World.doorLaid Tryd.prog 400 os).forCall (fun _ _ => 0) ⟨#[], args, []⟩).memory :=
  laidMetH_of_parts3 (fuel := 8) (laidMet_of_run' 8 (by kernel_rfl) (by kernel_rfl)) (by kernel_rfl) (by kernel_rfl)
theorem shapes_blk {locs : List (Option Go.Abs.Loc)} {W : World} (hb : locs[0]? = some (some (Go.Abs.Loc.mk (some ⟨1, 0, none⟩) none))) (h : ∀ i v, shapesV[i]? = some v → W.cell? ⟨1, i, none⟩ = some v) : BlkOk Tryd.prog (envOf locs) W 0 (.ro shapesV) :=
  ⟨Go.Abs.Loc.mk (some ⟨1, 0, none⟩) none, by simp [envOf, hb], .inr ⟨_, rfl, fun i v hv => by rw [addr_at]; exact h i v hv⟩⟩
theorem and_i {a b : Bool} (h1 : a = true) (h2 : b = true) : (a && b) = true := by rw [h1, h2]; rfl
theorem looks_yes : true = Tryd.prog.looks [] := by kernel_rfl
end Go.Proofs.YtfeokfaccaenhaaDoor
