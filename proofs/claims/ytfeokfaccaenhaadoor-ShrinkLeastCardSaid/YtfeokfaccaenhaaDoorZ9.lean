/- The statement ShrinkLeast: with less fuel or fewer answers than are left the case tells nothing, with the table of shapes as the program's text lays it. -/
import Derived.Test.YtfeokfaccaenhaaDoorZ5
import Derived.Test.YtfeokfaccaenhaaDoorE36
set_option linter.unusedVariables false
set_option linter.unusedSimpArgs false
set_option maxRecDepth 100000
namespace Go.Proofs.YtfeokfaccaenhaaDoor
open Go.Abs Go.ChangeShapes Go.WideShapes Go.ChangeAt Go.RowKit Go.WideElems Go.Deep Go.MakeChecks
namespace ShrinkLeast
theorem lifted (os : Os) (started : os.Started) (H : Type) (enc : TypeId × Value → H) :
    ReturnsInHanded {} Tryd.checked os 7 .any (fun w args => (Rows.shrinkLeastSpec.pre enc Tryd.prog Tryd.f7 [] false w args ∧ laidMetH Tryd.prog [("joinery/ins.shapes", Rows.laid_joinery_ins_shapes)] w) ∧ sizedMet enc Tryd.prog Tryd.f7 (OpenSpec.ofChange Rows.shrinkLeastSpec) false w args)
      (Rows.shrinkLeastSpec.post enc Tryd.prog Tryd.f7 false true false false) := by
  refine returnsInHanded_of_change_and (C := Tryd.checked) (X := fun w _ => laidMetH Tryd.prog [("joinery/ins.shapes", Rows.laid_joinery_ins_shapes)] w) (fun _ _ _ hh h => h.of_heap hh) own started (by kernel_rfl) Tryd.func7
    (ChangeSpec.witness_shaped (enc := enc) (C := Tryd.checked) (os := os) (X := fun w _ => laidMetH Tryd.prog [("joinery/ins.shapes", Rows.laid_joinery_ins_shapes)] w) false (World.doorLaid Tryd.prog 400 os) #[.slice none 0 0, .slice none 0 0, .agg #[.int .i64 0, .int .i64 0, .int .i64 0, .int .i64 0, .int .i64 0, .int .i64 0, .int .i64 0, .int .i64 0, .slice none 0 0, .slice none 0 0, .int .i64 0], .int .u8 0, .int .u8 0] 8 rfl (World.shaped_of_RefB (by kernel_rfl) (by kernel_rfl)) (by kernel_rfl) (by kernel_rfl) (by kernel_rfl) (door_met os _)) ?_
  intro W base args ds gs before hval0 hW _ _ hL _
  have hval : ∀ (j : Nat) t v, Tryd.f7.params[j]? = some t → args[j]? = some v → Value.okWide Tryd.prog W .any base t v := hval0
  have hW' := hW
  obtain ⟨p, q, hA0, hV, rfl, hfz, hnd⟩ := hW
  have hA : DataW.TrodAll enc Tryd.prog W 0 (fun _ => true) true Tryd.f7.params.toList args.toList ds p := hA0
  rw [Tryd.params7] at hA hval
  obtain ⟨v0, vs0, d0, ds0, p0, q0, hargs, rfl, rfl, h0, r0⟩ := trodAll_cons hA
  obtain ⟨v1, vs1, d1, ds1, p1, q1, rfl, rfl, rfl, h1, r1⟩ := trodAll_cons r0
  obtain ⟨v2, vs2, d2, ds2, p2, q2, rfl, rfl, rfl, h2, r2⟩ := trodAll_cons r1
  obtain ⟨v3, vs3, d3, ds3, p3, q3, rfl, rfl, rfl, h3, r3⟩ := trodAll_cons r2
  obtain ⟨v4, vs4, d4, ds4, p4, q4, rfl, rfl, rfl, h4, r4⟩ := trodAll_cons r3
  obtain ⟨rfl, rfl, rfl⟩ := trodAll_nil r4
  obtain rfl : args = #[v0, v1, v2, v3, v4] := by cases args; simp_all
  obtain ⟨rfl, rfl⟩ := trodVars_none hV
  obtain ⟨A0, l0, c0, rfl⟩ := okWide_slice Tryd.underlying22 (hval 0 _ v0 rfl rfl)
  obtain ⟨A1, l1, c1, rfl⟩ := okWide_slice Tryd.underlying22 (hval 1 _ v1 rfl rfl)
  obtain ⟨arr2, rfl, _⟩ := okWide_struct Tryd.underlying39 (hval 2 _ v2 rfl rfl)
  obtain ⟨z3, rfl, rfl, rfl, w3⟩ := open_int Tryd.underlying5 (hval 3 _ v3 rfl rfl) h3
  obtain ⟨z4, rfl, rfl, rfl, w4⟩ := open_int Tryd.underlying5 (hval 4 _ v4 rfl rfl) h4
  have lt0 : ∀ x ∈ p0, x.block < W.heap.size := by obtain ⟨m, hm⟩ := h0; exact DataW.trod_lt m _ _ _ hm
  obtain ⟨s0, rfl, ha0, hb0⟩ := open_code Tryd.underlying22 Tryd.underlying33 (by kernel_rfl) (by kernel_rfl) h0
  have lt1 : ∀ x ∈ p1, x.block < W.heap.size := by obtain ⟨m, hm⟩ := h1; exact DataW.trod_lt m _ _ _ hm
  obtain ⟨s1, rfl, ha1, hb1⟩ := open_code Tryd.underlying22 Tryd.underlying33 (by kernel_rfl) (by kernel_rfl) h1
  have lt2 : ∀ x ∈ p2, x.block < W.heap.size := by obtain ⟨m, hm⟩ := h2; exact DataW.trod_lt m _ _ _ hm
  obtain ⟨c2, A2, B2, k2, m2, hR2, rfl, la2, ra2, lb2, rb2⟩ := open_case Tryd.underlying39 Tryd.underlying36 Tryd.underlying2 Tryd.underlying37 Tryd.underlying37 Tryd.underlying2 Tryd.underlying3 rfl (by kernel_rfl) h2
  have hsh := shapes_laid (by rw [laidMetH_plain _ _ _ (by kernel_rfl)] at hL; exact hL)
  have hb := bridge (W := W) (fn7 s0 s1 c2 hR2 z3 z4 (u8_bd w3) (u8_bd w4)) (by simp [FB.isRo]) [some ⟨some ⟨1, 0, none⟩, none⟩, some ⟨some ⟨0, 0, none⟩, none⟩, some ⟨A0, none⟩, some ⟨A1, none⟩, some ⟨A2, none⟩, some ⟨B2, none⟩] rfl
    (xs := [.slice A0 s0.length c0, .slice A1 s1.length c1, .agg (nums c2.R ++ [.slice A2 c2.H.length k2, .slice B2 c2.A.length m2, i64 c2.fuel]).toArray, .int .u8 z3, .int .u8 z4]) (fun g id hid => gid_locs hid) (fun b lb hm => by
      simp only [List.mem_cons, Prod.mk.injEq, FB.ro.injEq, List.mem_nil_iff, or_false] at hm
      rcases hm with ⟨rfl, rfl⟩ | ⟨rfl, rfl⟩ | ⟨rfl, rfl⟩ | ⟨rfl, rfl⟩ | ⟨rfl, rfl⟩
      · exact shapes_blk rfl hsh
      · exact slice_blk rfl (code_blk hb0)
      · exact slice_blk rfl (code_blk hb1)
      · exact slice_blk rfl ra2
      · exact slice_blk rfl rb2
      ) (by
      simp only [VrL]
      exact ⟨slice_vr (P := Tryd.prog) (W := W) rfl ha0 (code_addr hb0), slice_vr (P := Tryd.prog) (W := W) rfl ha1 (code_addr hb1), case_vr (P := Tryd.prog) (W := W) rfl rfl la2 lb2 ra2 rb2, by simp [Vr, i64], by simp [Vr, i64], trivial⟩)
  clear hA0 hval0
  refine hb.mono fun e W' ⟨he, bel⟩ => ?_
  subst he
  exact ⟨_, rfl, _, _, _, [], _, [], hW', trodAll_mk1 (shut_bool Tryd.underlying4 _), trodAll_cons_mk (Below.trod laidOut (by kernel_rfl) (of_decide_eq_true (by kernel_rfl)) h0 bel lt0) (trodAll_cons_mk (Below.trod laidOut (by kernel_rfl) (of_decide_eq_true (by kernel_rfl)) h1 bel lt1) (trodAll_cons_mk (Below.trod laidOut (by kernel_rfl) (of_decide_eq_true (by kernel_rfl)) h2 bel lt2) (trodAll_cons_mk (shut_int Tryd.underlying5 w3) (trodAll_cons_mk (shut_int Tryd.underlying5 w4) trodAll_mk0)))), rfl, bel.frame _, fun h => by cases h⟩
set_option maxHeartbeats 8000000 in
theorem closed : joinedFacts Tryd.prog 7 Tryd.f7 Rows.shrinkLeastSpec Rows.shrinkLeastRow = true := by
  unfold joinedFacts
  repeat' with_reducible refine and_i ?_ ?_
  all_goals as_aux_lemma => kernel_rfl
theorem named : Tryd.prog.funcNamed "joinery/joinerylaw20.ShrinkLeast" = some 7 := by kernel_rfl
theorem inst : Tryd.f7.isInstance Tryd.prog Rows.shrinkLeastRow.origin Rows.shrinkLeastRow.targs := of_decide_eq_true (by kernel_rfl)
theorem wrap : Tryd.f7.isWrapper Tryd.prog Rows.shrinkLeastRow.wrapper Rows.shrinkLeastRow.mainSum := by unfold Func.isWrapper; first | (rw [if_pos (by decide +kernel)]; kernel_rfl) | (rw [if_neg (by decide +kernel)]; exact ⟨rfl, rfl⟩)
theorem over : Rows.shrinkLeastRow.holds Tryd.pinned (OpenSpec.ofChange Rows.shrinkLeastSpec) :=
  OpenClaim.holds_of_wide 7 Tryd.f7 rfl rfl rfl rfl rfl rfl rfl ⟨rfl, rfl, rfl, rfl, rfl⟩ rfl rfl rfl rfl rfl named Tryd.func7 closed inst wrap (fun os started H enc _ => lifted os started H enc)
theorem byText : Rows.shrinkLeastRow.wfByText (OpenSpec.ofChange Rows.shrinkLeastSpec) = true := by kernel_rfl
theorem mainIs : Tryd.pinned.checked.prog.mainIs = some (true, "0c780141f8b9d071520d5227abd4a43ac2d6671a452680be632286bce2013187".toList) := by kernel_rfl
theorem goes : false = Rows.shrinkLeastRow.goesBy Tryd.pinned.checked.prog := by kernel_rfl
theorem plain (j : Nat) (t : TypeId) (ht : Tryd.f7.params[j]? = some t) : Tryd.prog.wantsStandIn t = false := by
  rw [Tryd.params7] at ht
  have hm : t ∈ ([22, 22, 39, 5, 5] : List TypeId) := by simpa using Array.mem_of_getElem? ht
  have hall : (([22, 22, 39, 5, 5] : List TypeId).all fun u => !Tryd.prog.wantsStandIn u) = true := by kernel_rfl
  simpa using List.all_eq_true.1 hall t hm
end ShrinkLeast
/-- THE CARD of ShrinkLeast. -/
theorem shrinkLeast_card : Rows.ShrinkLeastCardSaid :=
  Claim7.holds_tied_plain_at .later [] [.data] true (true, "0c780141f8b9d071520d5227abd4a43ac2d6671a452680be632286bce2013187") true
    ShrinkLeast.over (fun _ h => by cases h) ShrinkLeast.byText (fun _ h => by cases h) shrinkLeast_row_tie rfl ⟨rfl, rfl⟩ ShrinkLeast.mainIs rfl
    (fun f fn hf hfn => by
      obtain rfl : f = 7 := Option.some.inj (ShrinkLeast.named.symm.trans hf) |>.symm
      obtain rfl : fn = Tryd.f7 := (Option.some.inj (Tryd.func7.symm.trans hfn)).symm
      exact ⟨looks_yes, ShrinkLeast.plain⟩)
    ShrinkLeast.goes
#print axioms shrinkLeast_card
end Go.Proofs.YtfeokfaccaenhaaDoor
