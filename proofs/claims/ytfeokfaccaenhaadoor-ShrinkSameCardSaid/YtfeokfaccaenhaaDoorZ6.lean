/- The statement ShrinkSame: of one function and itself nothing is left out, with the table of shapes as the program's text lays it. -/
import Derived.Test.YtfeokfaccaenhaaDoorZ5
import Derived.Test.YtfeokfaccaenhaaDoorE35
set_option linter.unusedVariables false
set_option linter.unusedSimpArgs false
set_option maxRecDepth 100000
namespace Go.Proofs.YtfeokfaccaenhaaDoor
open Go.Abs Go.ChangeShapes Go.WideShapes Go.ChangeAt Go.RowKit Go.WideElems Go.Deep Go.MakeChecks
namespace ShrinkSame
theorem lifted (os : Os) (started : os.Started) (H : Type) (enc : TypeId × Value → H) :
    ReturnsInHanded {} Tryd.checked os 9 .any (fun w args => (Rows.shrinkSameSpec.pre enc Tryd.prog Tryd.f9 [] false w args ∧ laidMetH Tryd.prog [("joinery/ins.shapes", Rows.laid_joinery_ins_shapes)] w) ∧ sizedMet enc Tryd.prog Tryd.f9 (OpenSpec.ofChange Rows.shrinkSameSpec) false w args)
      (Rows.shrinkSameSpec.post enc Tryd.prog Tryd.f9 false true false false) := by
  refine returnsInHanded_of_change_and (C := Tryd.checked) (X := fun w _ => laidMetH Tryd.prog [("joinery/ins.shapes", Rows.laid_joinery_ins_shapes)] w) (fun _ _ _ hh h => h.of_heap hh) own started (by kernel_rfl) Tryd.func9
    (ChangeSpec.witness_shaped (enc := enc) (C := Tryd.checked) (os := os) (X := fun w _ => laidMetH Tryd.prog [("joinery/ins.shapes", Rows.laid_joinery_ins_shapes)] w) false (World.doorLaid Tryd.prog 400 os) #[.slice none 0 0, .agg #[.int .i64 0, .int .i64 0, .int .i64 0, .int .i64 0, .int .i64 0, .int .i64 0, .int .i64 0, .int .i64 0, .slice none 0 0, .slice none 0 0, .int .i64 0]] 8 rfl (World.shaped_of_RefB (by kernel_rfl) (by kernel_rfl)) (by kernel_rfl) (by kernel_rfl) (by kernel_rfl) (door_met os _)) ?_
  intro W base args ds gs before hval0 hW _ _ hL _
  have hval : ∀ (j : Nat) t v, Tryd.f9.params[j]? = some t → args[j]? = some v → Value.okWide Tryd.prog W .any base t v := hval0
  have hW' := hW
  obtain ⟨p, q, hA0, hV, rfl, hfz, hnd⟩ := hW
  have hA : DataW.TrodAll enc Tryd.prog W 0 (fun _ => true) true Tryd.f9.params.toList args.toList ds p := hA0
  rw [Tryd.params9] at hA hval
  obtain ⟨v0, vs0, d0, ds0, p0, q0, hargs, rfl, rfl, h0, r0⟩ := trodAll_cons hA
  obtain ⟨v1, vs1, d1, ds1, p1, q1, rfl, rfl, rfl, h1, r1⟩ := trodAll_cons r0
  obtain ⟨rfl, rfl, rfl⟩ := trodAll_nil r1
  obtain rfl : args = #[v0, v1] := by cases args; simp_all
  obtain ⟨rfl, rfl⟩ := trodVars_none hV
  obtain ⟨A0, l0, c0, rfl⟩ := okWide_slice Tryd.underlying22 (hval 0 _ v0 rfl rfl)
  obtain ⟨arr1, rfl, _⟩ := okWide_struct Tryd.underlying39 (hval 1 _ v1 rfl rfl)
  have lt0 : ∀ x ∈ p0, x.block < W.heap.size := by obtain ⟨m, hm⟩ := h0; exact DataW.trod_lt m _ _ _ hm
  obtain ⟨s0, rfl, ha0, hb0⟩ := open_code Tryd.underlying22 Tryd.underlying33 (by kernel_rfl) (by kernel_rfl) h0
  have lt1 : ∀ x ∈ p1, x.block < W.heap.size := by obtain ⟨m, hm⟩ := h1; exact DataW.trod_lt m _ _ _ hm
  obtain ⟨c1, A1, B1, k1, m1, hR1, rfl, la1, ra1, lb1, rb1⟩ := open_case Tryd.underlying39 Tryd.underlying36 Tryd.underlying2 Tryd.underlying37 Tryd.underlying37 Tryd.underlying2 Tryd.underlying3 rfl (by kernel_rfl) h1
  have hsh := shapes_laid (by rw [laidMetH_plain _ _ _ (by kernel_rfl)] at hL; exact hL)
  have hb := bridge (W := W) (fn9 s0 c1 hR1) (by simp [FB.isRo]) [some ⟨some ⟨1, 0, none⟩, none⟩, some ⟨some ⟨0, 0, none⟩, none⟩, some ⟨A0, none⟩, some ⟨A1, none⟩, some ⟨B1, none⟩] rfl
    (xs := [.slice A0 s0.length c0, .agg (nums c1.R ++ [.slice A1 c1.H.length k1, .slice B1 c1.A.length m1, i64 c1.fuel]).toArray]) (fun g id hid => gid_locs hid) (fun b lb hm => by
      simp only [List.mem_cons, Prod.mk.injEq, FB.ro.injEq, List.mem_nil_iff, or_false] at hm
      rcases hm with ⟨rfl, rfl⟩ | ⟨rfl, rfl⟩ | ⟨rfl, rfl⟩ | ⟨rfl, rfl⟩
      · exact shapes_blk rfl hsh
      · exact slice_blk rfl (code_blk hb0)
      · exact slice_blk rfl ra1
      · exact slice_blk rfl rb1
      ) (by
      simp only [VrL]
      exact ⟨slice_vr (P := Tryd.prog) (W := W) rfl ha0 (code_addr hb0), case_vr (P := Tryd.prog) (W := W) rfl rfl la1 lb1 ra1 rb1, trivial⟩)
  clear hA0 hval0
  refine hb.mono fun e W' ⟨he, bel⟩ => ?_
  subst he
  exact ⟨_, rfl, _, _, _, [], _, [], hW', trodAll_mk1 (shut_bool Tryd.underlying4 _), trodAll_cons_mk (Below.trod laidOut (by kernel_rfl) (of_decide_eq_true (by kernel_rfl)) h0 bel lt0) (trodAll_cons_mk (Below.trod laidOut (by kernel_rfl) (of_decide_eq_true (by kernel_rfl)) h1 bel lt1) trodAll_mk0), rfl, bel.frame _, fun h => by cases h⟩
set_option maxHeartbeats 8000000 in
theorem closed : joinedFacts Tryd.prog 9 Tryd.f9 Rows.shrinkSameSpec Rows.shrinkSameRow = true := by
  unfold joinedFacts
  repeat' with_reducible refine and_i ?_ ?_
  all_goals as_aux_lemma => kernel_rfl
theorem named : Tryd.prog.funcNamed "joinery/joinerylaw20.ShrinkSame" = some 9 := by kernel_rfl
theorem inst : Tryd.f9.isInstance Tryd.prog Rows.shrinkSameRow.origin Rows.shrinkSameRow.targs := of_decide_eq_true (by kernel_rfl)
theorem wrap : Tryd.f9.isWrapper Tryd.prog Rows.shrinkSameRow.wrapper Rows.shrinkSameRow.mainSum := by unfold Func.isWrapper; first | (rw [if_pos (by decide +kernel)]; kernel_rfl) | (rw [if_neg (by decide +kernel)]; exact ⟨rfl, rfl⟩)
theorem over : Rows.shrinkSameRow.holds Tryd.pinned (OpenSpec.ofChange Rows.shrinkSameSpec) :=
  OpenClaim.holds_of_wide 9 Tryd.f9 rfl rfl rfl rfl rfl rfl rfl ⟨rfl, rfl, rfl, rfl, rfl⟩ rfl rfl rfl rfl rfl named Tryd.func9 closed inst wrap (fun os started H enc _ => lifted os started H enc)
theorem byText : Rows.shrinkSameRow.wfByText (OpenSpec.ofChange Rows.shrinkSameSpec) = true := by kernel_rfl
theorem mainIs : Tryd.pinned.checked.prog.mainIs = some (true, "0c780141f8b9d071520d5227abd4a43ac2d6671a452680be632286bce2013187".toList) := by kernel_rfl
theorem goes : false = Rows.shrinkSameRow.goesBy Tryd.pinned.checked.prog := by kernel_rfl
theorem plain (j : Nat) (t : TypeId) (ht : Tryd.f9.params[j]? = some t) : Tryd.prog.wantsStandIn t = false := by
  rw [Tryd.params9] at ht
  have hm : t ∈ ([22, 39] : List TypeId) := by simpa using Array.mem_of_getElem? ht
  have hall : (([22, 39] : List TypeId).all fun u => !Tryd.prog.wantsStandIn u) = true := by kernel_rfl
  simpa using List.all_eq_true.1 hall t hm
end ShrinkSame
/-- THE CARD of ShrinkSame. -/
theorem shrinkSame_card : Rows.ShrinkSameCardSaid :=
  Claim7.holds_tied_plain_at .later [] [.data] true (true, "0c780141f8b9d071520d5227abd4a43ac2d6671a452680be632286bce2013187") true
    ShrinkSame.over (fun _ h => by cases h) ShrinkSame.byText (fun _ h => by cases h) shrinkSame_row_tie rfl ⟨rfl, rfl⟩ ShrinkSame.mainIs rfl
    (fun f fn hf hfn => by
      obtain rfl : f = 9 := Option.some.inj (ShrinkSame.named.symm.trans hf) |>.symm
      obtain rfl : fn = Tryd.f9 := (Option.some.inj (Tryd.func9.symm.trans hfn)).symm
      exact ⟨looks_yes, ShrinkSame.plain⟩)
    ShrinkSame.goes
#print axioms shrinkSame_card
end Go.Proofs.YtfeokfaccaenhaaDoor
