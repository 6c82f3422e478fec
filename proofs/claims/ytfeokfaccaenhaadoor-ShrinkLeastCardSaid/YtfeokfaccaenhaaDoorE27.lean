/- The contract of a run. -/
import Derived.Test.YtfeokfaccaenhaaDoorE26
set_option linter.unusedVariables false
set_option linter.unusedSimpArgs false
namespace Go.Abs
open Go.Proofs
set_option maxRecDepth 100000
set_option maxHeartbeats 2000000
theorem w64s {i : Nat} (h : i ≤ 1000000) : IntKind.i64.wrap ((i : Int) + 1) = ((i + 1 : Nat) : Int) := w64i (k := 1000001) (by omega) (by omega)
/-- The state of the run's loop. -/
structure RS where
  i : Nat
  s : Mst
  t : Trc
def runFH (f : List Ins) (R H A : List Int) (fuel : Int) (x : RS) : FH := [(0, .ro shapesV), (2, .ro (insCells f)), (3, .ro (nums H)), (4, .ro (nums A)), (5, .cel 39 (vals (nums R) ++ [.sl 3 0 H.length, .sl 4 0 A.length, vi fuel])),
  (6, .cel 103 [nilV, vi 0, vi 0, nilV, vi 0, vi 0]), (7, .cel 197 (vals (wcells (begL [] 0)) ++ [nilV, vi 0, vi 0])), (8, .cel 103 (trV 10 11 x.t)), (9, .cel 197 (vals (wcells x.s.L) ++ [.sl 12 0 x.s.H.length, vi x.s.pc, vi x.s.asked])),
  (10, .row 205 (evCells x.t.ev)), (11, .row 2 (nums x.t.out.heap)), (12, .row 2 (nums x.s.H))]
structure RInv (f : List Ins) (c : Cas) (x : RS) : Prop where
  i : x.i ≤ c.fuel.toNat
  ok : Okm f x.s
  go : x.t.out = goOn
  ev : x.t.ev.length ≤ x.i
  steps : x.t.steps ≤ x.i
  work : x.t.work ≤ x.i
  run : runL f c.A (c.fuel.toNat - x.i) x.s x.t = runC f c
theorem fn114 (f : List Ins) (c : Cas) (hR : c.R.length = 8) (hf : fair f c = true) : FnOK Tryd.prog gidD 114 5 [.sl 2 0 f.length, caV 3 4 c] (hl [(0, .ro shapesV), (2, .ro (insCells f)), (3, .ro (nums c.H)), (4, .ro (nums c.A))])
    (.tup [.agg (trV 5 6 (runC f c).2), stV 7 (runC f c).1, vi 0]) (hl [(5, .row 205 (evCells (runC f c).2.ev)), (6, .row 2 (nums (runC f c).2.out.heap)), (7, .row 2 (nums (runC f c).1.H))]) 8 := by
  refine FnOK.of ok114 (Nat.le_refl _) (by decide) fun M => ?_
  simp only [fair, Bool.and_eq_true] at hf
  obtain ⟨hr, hc⟩ := hf
  have hc' := hc
  simp only [caseOk, Bool.and_eq_true, decide_eq_true_eq] at hc'
  obtain ⟨hH, hA, hf0, hf1⟩ := hc'
  have h1 := fn26 f
  have h2 := fn138 c hR
  rw [hr] at h1
  rw [hc] at h2
  have h3 := fn139 c hR hH
  have hb := begin_ok hr hR hc
  have hrun : runL f c.A c.fuel.toNat (beginS c) trc0 = runC f c := rfl
  have hbH : (beginS c).H = c.H := rfl
  generalize hbe : beginS c = s0 at hb hrun h3 hbH
  generalize hrc : runC f c = rc at hrun ⊢
  have hbL := hb.len
  obtain ⟨R, H, A, fuel⟩ := c
  simp only at hR hH hA hf0 hf1 hrun hbH
  obtain ⟨L0, H0, pc0, as0⟩ := s0
  simp only at hbL hbH
  subst hbH
  obtain ⟨r0, r1, r2, r3, r4, r5, r6, r7, hRe⟩ := list8 hR
  obtain ⟨b0, b1, b2, b3, b4, b5, b6, b7, b8, b9, b10, b11, b12, b13, b14, b15, b16, b17, b18, b19, b20, b21, b22, b23, hLe⟩ := list24 hbL
  unfold caV caC at h2 h3 ⊢
  unfold stV at h3
  simp only at h2 h3 ⊢
  rw [hRe] at h2 h3 ⊢
  rw [hLe] at h3
  conv => whnf
  refine callX h1 [.old 0, .old 1, .old 2] rfl rfl rfl rfl ⟨rfl, rfl, trivial⟩ ?_
  conv => whnf
  refine callX h2 [.old 0, .old 1, .old 3, .old 4] rfl rfl rfl rfl trivial ?_
  conv => whnf
  refine callX h3 [.old 0, .old 1, .old 3, .old 4] rfl rfl rfl rfl ⟨rfl, trivial⟩ ?_
  conv => whnf
  rw [← hRe]
  have hcL : (vals (nums R)).length = 8 := by rw [vnums_len, hR]
  refine LoopS.ren (F2 := runFH f R H0 A fuel ⟨0, ⟨L0, H0, pc0, as0⟩, trc0⟩) (fr2 := [(0, .sl 2 0 f.length), (3, .ptr 5 0), (4, .ptr 6 0), (5, .ptr 7 0), (7, .ptr 8 0), (8, .ptr 9 0), (26, vi fuel), (27, vi (0 : Nat))]) (n2 := 13)
    [.old 0, .old 1, .old 2, .old 3, .old 4, .old 5, .old 6, .old 7, .old 8, .old 10, .nil, .nil, .old 9] ?_ rfl (by decide) ⟨rfl, rfl, rfl, rfl, rfl, rfl, rfl, rfl, trivial⟩
    ⟨rfl, rfl, rfl, rfl, ⟨_, rfl, rnL_app rfl _⟩, ⟨_, rfl, rfl⟩, ⟨_, rfl, rfl⟩, ⟨_, rfl, rfl⟩, ⟨_, rfl, ?_⟩, rfl, rfl, ⟨_, rfl, rfl⟩, trivial⟩
  rotate_left
  · rw [hLe]; rfl
  refine LoopS.ind (S := RS) (fun x => [(0, .sl 2 0 f.length), (3, .ptr 5 0), (4, .ptr 6 0), (5, .ptr 7 0), (7, .ptr 8 0), (8, .ptr 9 0), (26, vi fuel), (27, vi x.i)]) (fun x => hl (runFH f R H0 A fuel x)) 13
    (RInv f ⟨R, H0, A, fuel⟩) (fun x => fuel.toNat - x.i) ?_ ⟨0, ⟨L0, H0, pc0, as0⟩, trc0⟩ ⟨Nat.zero_le _, hb, rfl, Nat.le_refl _, Nat.le_refl _, Nat.le_refl _, by rw [hrc]; exact hrun⟩
  clear h1 h2 h3
  rintro ⟨i, s, t⟩ ⟨vi1, vok, vgo, vev, vst, vwk, vrun⟩ ih
  refine LoopS.round rfl ?_
  conv => whnf
  simp only at vi1 vev vst vwk vrun vgo
  have vL := vok.len
  have vH := vok.heap
  have vpc := vok.pc
  have hpl := (right_len hr).2
  have hlen := insCells_len f
  obtain ⟨L, H, pc, asked⟩ := s
  obtain ⟨tev, tout, tst, twk⟩ := t
  simp only at vL vH vpc vrun vgo vev vst vwk
  subst vgo
  obtain ⟨a0, a1, a2, a3, a4, a5, a6, a7, a8, a9, a10, a11, a12, a13, a14, a15, a16, a17, a18, a19, a20, a21, a22, a23, hLe⟩ := list24 vL
  obtain ⟨x, hx⟩ : ∃ x, f[pc]? = some x := ⟨_, List.getElem?_eq_getElem vpc⟩
  by_cases hlt : i < fuel.toNat
  · refine brT_true (decide_eq_true (by show (i : Int) < fuel; omega)) ?_
    simp only [runFH]
    rw [hLe, hRe]
    conv => whnf
    repeat (refine cndP_intro (by omega) ?_; conv => whnf)
    rw [insAt hx]
    conv => whnf
    refine callX (fn125 x) [.old 0, .old 1] rfl rfl rfl rfl trivial ?_
    have hD := fn140 f ⟨L, H, pc, asked⟩ A hr vok hx (by omega)
    have hok := step_ok (A := A) hr vok hx
    have hop := insErr_op (right_at hr hx)
    have hel := step_ev_len (s := ⟨L, H, pc, asked⟩) (A := A) hop.1 hop.2
    have hgo := step_go (s := ⟨L, H, pc, asked⟩) (A := A) hop.1 hop.2
    have hst : runL f A (fuel.toNat - i) ⟨L, H, pc, asked⟩ ⟨tev, goOn, tst, twk⟩ = if (stepX x ⟨L, H, pc, asked⟩ A).2.2.how = 0 then runL f A (fuel.toNat - (i + 1)) (stepX x ⟨L, H, pc, asked⟩ A).1 (Trc.on ⟨tev, goOn, tst, twk⟩ x (stepX x ⟨L, H, pc, asked⟩ A)) else ((stepX x ⟨L, H, pc, asked⟩ A).1, Trc.on ⟨tev, goOn, tst, twk⟩ x (stepX x ⟨L, H, pc, asked⟩ A)) := by
      rw [show fuel.toNat - i = (fuel.toNat - (i + 1)) + 1 by omega, runL]
      simp only [hx]
    rw [hst] at vrun
    generalize stepX x ⟨L, H, pc, asked⟩ A = r at hD hok hel hgo vrun
    obtain ⟨⟨L2, H2, pc2, as2⟩, ev, ⟨how, value, oh⟩⟩ := r
    have hL2 := hok.len
    simp only at hL2 hel hgo vrun
    unfold stV otV at hD
    simp only at hD
    obtain ⟨b0, b1, b2, b3, b4, b5, b6, b7, b8, b9, b10, b11, b12, b13, b14, b15, b16, b17, b18, b19, b20, b21, b22, b23, hLe2⟩ := list24 hL2
    rw [hLe, hLe2] at hD
    have e1 : 0 + ev.length * 3 ≤ (Blk.own 205 (vals (evCells ev))).cellsV.length := by show _ ≤ (vals (evCells ev)).length; rw [vals_length, evCells_len]; omega
    have e2 : (Blk.own 205 (vals (evCells ev))).sub 0 (ev.length * 3) = vals (evCells ev) := subOwn' rfl (evCells_len ev).symm
    have e3 : ((Blk.own 205 (vals (evCells ev))).sub 0 (ev.length * 3)).all V.flat = true := by rw [e2]; exact evFlat ev
    have e4 : (vals (evCells tev)).length = tev.length * 3 := by rw [vals_length, evCells_len]
    have hs1 := w64s (i := tst) (by omega)
    have hs2 := w64s (i := twk) (by omega)
    cases hm : movesI x
    · conv => whnf
      rw [hs2]
      conv => whnf
      refine callX hD [.old 0, .old 1, .old 2, .view 12 0, .old 4] rfl rfl rfl rfl ⟨rfl, rfl, ⟨_, rfl, by rw [Nat.zero_add]; exact Nat.le_of_eq (vals_length _).symm, subAll _ _⟩, rfl, trivial⟩ ?_
      conv => whnf
      rw [hs1]
      refine cndP_intro e4 ?_
      conv => whnf
      refine cndP_intro e1 ?_
      conv => whnf
      refine cndP_intro e3 ?_
      conv => whnf
      refine cndP_intro (by show tev.length + ev.length ≤ 1000000000; omega) ?_
      conv => whnf
      repeat (refine cndP_intro (by first | exact rfl) ?_; conv => whnf)
      by_cases h0 : how = 0
      · refine brT_false (decide_eq_false (by simpa using h0)) ?_
        conv => whnf
        obtain ⟨rfl, rfl, rfl⟩ : how = 0 ∧ value = 0 ∧ oh = [] := by have := hgo h0; simpa [goOn] using this
        rw [if_pos rfl] at vrun
        refine LoopS.ren [.old 0, .old 1, .old 2, .old 3, .old 4, .old 5, .old 6, .old 7, .old 8, .old 9, .old 18, .old 15, .old 13] (ih ⟨i + 1, ⟨L2, H2, pc2, as2⟩, ⟨tev ++ ev, goOn, tst + 1, twk + 1⟩⟩
          ⟨by show i + 1 ≤ fuel.toNat; omega, hok, rfl, by show (tev ++ ev).length ≤ i + 1; rw [List.length_append]; omega, by show tst + 1 ≤ i + 1; omega, by show twk + 1 ≤ i + 1; omega, by rw [← vrun]; simp [Trc.on, hm, goOn]⟩ (by show fuel.toNat - (i + 1) < fuel.toNat - i; omega)) rfl (by decide)
          ⟨rfl, rfl, rfl, rfl, rfl, rfl, rfl, congrArg (fun z => some (vi z)) (w64s (by omega)).symm, trivial⟩
          ⟨rfl, rfl, rfl, rfl, ⟨_, rfl, by rw [hRe]; rfl⟩, ⟨_, rfl, rfl⟩, ⟨_, rfl, rfl⟩, ⟨_, rfl, by simp only [trV]; rw [List.length_append]; rfl⟩, ⟨_, rfl, by rw [hLe2]; rfl⟩, ⟨_, rfl, by rw [e2, evCells_app, vals_append]⟩, ⟨_, rfl, rfl⟩, ⟨_, rfl, rfl⟩, trivial⟩
      · refine brT_true (decide_eq_true h0) ?_
        conv => whnf
        rw [if_neg h0] at vrun
        have hrc2 : rc = (⟨L2, H2, pc2, as2⟩, ⟨tev ++ ev, ⟨how, value, oh⟩, tst + 1, twk + 1⟩) := by rw [← hrc, ← vrun]; simp [Trc.on, hm]
        rw [hrc2]
        simp only [trV]
        rw [hLe2, List.length_append]
        exact retX [.old 0, .old 1, .old 2, .old 3, .old 4, .old 18, .old 15, .old 13] (.inl rfl) rfl rfl rfl ⟨⟨_, rfl, by rw [e2, evCells_app, vals_append]⟩, ⟨_, rfl, rfl⟩, ⟨_, rfl, rfl⟩, trivial⟩
    · conv => whnf
      refine callX hD [.old 0, .old 1, .old 2, .view 12 0, .old 4] rfl rfl rfl rfl ⟨rfl, rfl, ⟨_, rfl, by rw [Nat.zero_add]; exact Nat.le_of_eq (vals_length _).symm, subAll _ _⟩, rfl, trivial⟩ ?_
      conv => whnf
      rw [hs1]
      refine cndP_intro e4 ?_
      conv => whnf
      refine cndP_intro e1 ?_
      conv => whnf
      refine cndP_intro e3 ?_
      conv => whnf
      refine cndP_intro (by show tev.length + ev.length ≤ 1000000000; omega) ?_
      conv => whnf
      repeat (refine cndP_intro (by first | exact rfl) ?_; conv => whnf)
      by_cases h0 : how = 0
      · refine brT_false (decide_eq_false (by simpa using h0)) ?_
        conv => whnf
        obtain ⟨rfl, rfl, rfl⟩ : how = 0 ∧ value = 0 ∧ oh = [] := by have := hgo h0; simpa [goOn] using this
        rw [if_pos rfl] at vrun
        refine LoopS.ren [.old 0, .old 1, .old 2, .old 3, .old 4, .old 5, .old 6, .old 7, .old 8, .old 9, .old 18, .old 15, .old 13] (ih ⟨i + 1, ⟨L2, H2, pc2, as2⟩, ⟨tev ++ ev, goOn, tst + 1, twk⟩⟩
          ⟨by show i + 1 ≤ fuel.toNat; omega, hok, rfl, by show (tev ++ ev).length ≤ i + 1; rw [List.length_append]; omega, by show tst + 1 ≤ i + 1; omega, by show twk ≤ i + 1; omega, by rw [← vrun]; simp [Trc.on, hm, goOn]⟩ (by show fuel.toNat - (i + 1) < fuel.toNat - i; omega)) rfl (by decide)
          ⟨rfl, rfl, rfl, rfl, rfl, rfl, rfl, congrArg (fun z => some (vi z)) (w64s (by omega)).symm, trivial⟩
          ⟨rfl, rfl, rfl, rfl, ⟨_, rfl, by rw [hRe]; rfl⟩, ⟨_, rfl, rfl⟩, ⟨_, rfl, rfl⟩, ⟨_, rfl, by simp only [trV]; rw [List.length_append]; rfl⟩, ⟨_, rfl, by rw [hLe2]; rfl⟩, ⟨_, rfl, by rw [e2, evCells_app, vals_append]⟩, ⟨_, rfl, rfl⟩, ⟨_, rfl, rfl⟩, trivial⟩
      · refine brT_true (decide_eq_true h0) ?_
        conv => whnf
        rw [if_neg h0] at vrun
        have hrc2 : rc = (⟨L2, H2, pc2, as2⟩, ⟨tev ++ ev, ⟨how, value, oh⟩, tst + 1, twk⟩) := by rw [← hrc, ← vrun]; simp [Trc.on, hm]
        rw [hrc2]
        simp only [trV]
        rw [hLe2, List.length_append]
        exact retX [.old 0, .old 1, .old 2, .old 3, .old 4, .old 18, .old 15, .old 13] (.inl rfl) rfl rfl rfl ⟨⟨_, rfl, by rw [e2, evCells_app, vals_append]⟩, ⟨_, rfl, rfl⟩, ⟨_, rfl, rfl⟩, trivial⟩
  · refine brT_false (decide_eq_false (by show ¬ (i : Int) < fuel; omega)) ?_
    clear ih
    have hi : fuel.toNat - i = 0 := by omega
    rw [hi] at vrun
    have hrc2 : rc = (⟨L, H, pc, asked⟩, ⟨tev, goOn, tst, twk⟩) := by rw [← hrc, ← vrun]; rfl
    rw [hrc2]
    simp only [runFH]
    rw [hLe]
    conv => whnf
    exact retX [.old 0, .old 1, .old 2, .old 3, .old 4, .old 10, .old 11, .old 12] (.inl rfl) rfl rfl rfl ⟨⟨_, rfl, rfl⟩, ⟨_, rfl, rfl⟩, ⟨_, rfl, rfl⟩, trivial⟩
end Go.Abs
