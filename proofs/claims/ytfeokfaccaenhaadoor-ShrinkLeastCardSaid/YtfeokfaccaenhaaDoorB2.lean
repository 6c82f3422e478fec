/- Compact code run, where all is known: what the run comes to, the code comes to. -/
import Derived.Test.YtfeokfaccaenhaaDoorB1
set_option linter.unusedVariables false
set_option linter.unusedSimpArgs false
namespace Go.Abs

theorem natF_eq {R : Type} (n : Nat) (k : Nat → R) : natF n k = k n := by cases n <;> rfl
theorem intF_eq {R : Type} (n : Int) (k : Int → R) : intF n k = k n := by cases n <;> simp [intF, natF_eq]
theorem valF_eq {R : Type} (v : Value) (k : Value → R) : valF v k = k v := by
  unfold valF
  split
  · simp [intF_eq]
  · split <;> rfl
  · rfl
mutual
theorem deep_eq {R : Type} : ∀ (v : V) (k : V → R), deep v k = k v
  | .val x, k => by simp [deep, valF_eq]
  | .ptr b o, k => by simp [deep, natF_eq]
  | .sl b o l, k => by simp [deep, natF_eq]
  | .mp b, k => by simp [deep, natF_eq]
  | .fn f cs, k => by simp [deep, deepL_eq cs]
  | .agg cs, k => by simp [deep, deepL_eq cs]
  | .tup cs, k => by simp [deep, deepL_eq cs]
  | .any, k => by simp [deep]
theorem deepL_eq {R : Type} : ∀ (v : List V) (k : List V → R), deepL v k = k v
  | [], k => by simp [deepL]
  | v :: vs, k => by simp [deepL, deep_eq v, deepL_eq vs]
end
theorem deepB_eq {R : Type} (b : Blk) (k : Blk → R) : deepB b k = k b := by
  unfold deepB
  split
  · simp [deepL_eq]
  · simp [natF_eq]
  · rfl
section
variable {T : Type}
theorem AnsO_frc (v : V) (k : V → Option T) : (AnsO T).frc v k = k v := deep_eq v k
theorem AnsO_frcB (v : Blk) (k : Blk → Option T) : (AnsO T).frcB v k = k v := deepB_eq v k
theorem AnsO_bad : (AnsO T).bad = none := rfl
theorem AnsO_cnd (p : Prop) [i : Decidable p] (r : Option T) : (AnsO T).cnd p r = if p then r else none := by
  unfold AnsO
  cases i <;> rfl
theorem AnsP_frc (v : V) (k : V → Prop) : AnsP.frc v k = k v := by cases v <;> rfl
theorem AnsP_frcB (v : Blk) (k : Blk → Prop) : AnsP.frcB v k = k v := rfl

theorem no_nat {t : T} {q : Prop} (h : (none : Option T) = some t) : q := by cases h
theorem cnd_nat {t : T} {p : Prop} [Decidable p] {r : Option T} {q : Prop} (h : (AnsO T).cnd p r = some t) (hr : r = some t → q) : AnsP.cnd p q := by
  rw [AnsO_cnd] at h
  rw [AnsP_cnd]
  split at h
  · rename_i hp; exact ⟨hp, hr h⟩
  · cases h
theorem brT_nat {t : T} {b : Bool} {r1 r2 : Option T} {q1 q2 : Prop} (h : brT b r1 r2 = some t) (h1 : r1 = some t → q1) (h2 : r2 = some t → q2) : brT b q1 q2 := by
  cases b
  · exact h2 h
  · exact h1 h
theorem frc_nat {t : T} {v : V} {r : V → Option T} {q : V → Prop} (h : (AnsO T).frc v r = some t) (hr : r v = some t → q v) : AnsP.frc v q := by
  rw [AnsO_frc] at h; rw [AnsP_frc]; exact hr h
theorem frcR_nat {t : T} {v : V} {r : V → Option T} {q : V → Prop} (h : (AnsO T).frcR v r = some t) (hr : r v = some t → q v) : AnsP.frcR v q := hr (by rw [← h]; exact (deep_eq v r).symm)
theorem frcN_nat {t : T} {v : Nat} {r : Nat → Option T} {q : Nat → Prop} (h : (AnsO T).frcN v r = some t) (hr : r v = some t → q v) : AnsP.frcN v q := hr (by rw [← h]; exact (natF_eq v r).symm)
theorem delK_nat {t : T} {b : Nat} : ∀ {L : HL} {r : HL → Option T} {q : HL → Prop}, delK b L r = some t → (∀ L, r L = some t → q L) → delK b L q
  | [], _, _, h, hr => hr _ h
  | (c, x) :: l, r, q, h, hr => by
    simp only [delK] at h ⊢
    split
    · rename_i e; rw [if_pos e] at h; exact delK_nat h hr
    · rename_i e; rw [if_neg e] at h; exact delK_nat h fun L hL => hr _ hL
theorem delsK_nat {t : T} : ∀ {cs L : HL} {r : HL → Option T} {q : HL → Prop}, delsK cs L r = some t → (∀ L, r L = some t → q L) → delsK cs L q
  | [], _, _, _, h, hr => hr _ h
  | (b, _) :: cs, L, r, q, h, hr => by
    simp only [delsK] at h ⊢
    exact delK_nat h fun L hL => delsK_nat hL hr
theorem appK_nat {t : T} : ∀ {pr L : HL} {r : HL → Option T} {q : HL → Prop}, appK (AnsO T) pr L r = some t → (∀ L, r L = some t → q L) → appK AnsP pr L q
  | [], _, _, _, h, hr => hr _ h
  | (b, p) :: pr, L, r, q, h, hr => by
    simp only [appK, AnsO_frcB, AnsP_frcB] at h ⊢
    exact appK_nat h fun L hL => hr _ hL
theorem setK_nat {t : T} {fr : Fr} {d : Option Nat} {v : V} {r : Fr → Option T} {q : Fr → Prop} (h : setK fr d v r = some t) (hr : ∀ fr, r fr = some t → q fr) : setK fr d v q := by
  cases d <;> exact hr _ h
theorem keepK_nat {t : T} : ∀ {ks : List Nat} {fr : Fr} {r : Fr → Option T} {q : Fr → Prop}, keepK (AnsO T) ks fr r = some t → (∀ fr, r fr = some t → q fr) → keepK AnsP ks fr q
  | [], _, _, _, h, hr => hr _ h
  | s :: ss, fr, r, q, h, hr => by
    simp only [keepK, AnsO_frc, AnsP_frc] at h ⊢
    exact keepK_nat h fun L hL => hr _ hL
variable {gid : Nat → Option Nat}
theorem evs_nat {t : T} {F : FF} : ∀ {xs : List Operand} {r : List V → Option T} {q : List V → Prop}, evs (AnsO T) gid F xs r = some t → (∀ l, r l = some t → q l) → evs AnsP gid F xs q
  | [], _, _, h, hr => hr _ h
  | x :: xs, r, q, h, hr => by
    simp only [evs, AnsO_frc, AnsP_frc] at h ⊢
    exact evs_nat h fun L hL => hr _ hL
theorem prts_nat {t : T} {F : FF} : ∀ {xs : List (Nat × Nat × Nat × Operand)} {r : List (Nat × V) → Option T} {q : List (Nat × V) → Prop}, prts (AnsO T) gid F xs r = some t → (∀ l, r l = some t → q l) → prts AnsP gid F xs q
  | [], _, _, h, hr => hr _ h
  | (a, o, z, x) :: xs, r, q, h, hr => by
    simp only [prts, AnsO_frc, AnsP_frc] at h ⊢
    exact cnd_nat h fun h => prts_nat h fun L hL => hr _ hL
theorem bnd_nat {t : T} {F : FF} {o : Option Operand} {d : Nat} {r : Nat → Option T} {q : Nat → Prop} (h : bnd (AnsO T) gid F o d r = some t) (hr : ∀ l, r l = some t → q l) : bnd AnsP gid F o d q := by
  cases o with
  | none => exact hr _ h
  | some y =>
    simp only [bnd] at h ⊢
    split at h
    · exact cnd_nat h (hr _)
    · cases h
theorem cellK_nat {t : T} {b : Option Blk} {o : Nat} {r : V → Blk → Option T} {q : V → Blk → Prop} (h : cellK (AnsO T) b o r = some t) (hr : ∀ v b, r v b = some t → q v b) : cellK AnsP b o q := by
  unfold cellK at h ⊢
  split at h
  · split at h
    · exact hr _ _ h
    · cases h
  · split at h
    · exact hr _ _ h
    · cases h
  · cases h
theorem cellsK_nat {t : T} {b : Option Blk} {o n : Nat} {r : List V → Blk → Option T} {q : List V → Blk → Prop} (h : cellsK (AnsO T) b o n r = some t) (hr : ∀ v b, r v b = some t → q v b) : cellsK AnsP b o n q := by
  unfold cellsK at h ⊢
  split at h
  · exact cnd_nat h (hr _ _)
  · exact cnd_nat h (hr _ _)
  · cases h

variable {callO : FuncId → List V → HL → Nat → (V → HL → HL → HL → Nat → Option T) → Option T} {callP : FuncId → List V → HL → Nat → (V → HL → HL → HL → Nat → Prop) → Prop}
theorem stp_nat {t : T} (hcall : ∀ f vs L n (r : V → HL → HL → HL → Nat → Option T) (q : V → HL → HL → HL → Nat → Prop), (∀ v rd cs pr n, r v rd cs pr n = some t → q v rd cs pr n) → callO f vs L n r = some t → callP f vs L n q)
    {fr : Fr} {L : HL} {n : Nat} {i : I} {r : V → HL → HL → HL → Nat → Option T} {q : V → HL → HL → HL → Nat → Prop} (hr : ∀ v rd cs pr n, r v rd cs pr n = some t → q v rd cs pr n) (h : stp (AnsO T) gid callO fr L n r i = some t) :
    stp AnsP gid callP fr L n q i := by
  cases i
  case' ld m x => cases m
  all_goals unfold stp at h ⊢
  all_goals simp only [AnsO_bad, AnsP_bad] at h ⊢
  all_goals
    repeat' first
      | exact hr _ _ _ _ _ h
      | exact no_nat h
      | refine cnd_nat h fun h => ?_
      | refine frc_nat h fun h => ?_
      | refine brT_nat h (fun h => ?_) (fun h => ?_)
      | refine evs_nat h fun _ h => ?_
      | refine prts_nat h fun _ h => ?_
      | refine bnd_nat h fun _ h => ?_
      | refine cellK_nat h fun _ _ h => ?_
      | refine cellsK_nat h fun _ _ h => ?_
      | exact hcall _ _ _ _ _ _ hr h
      | (split at h <;> rename_i heq <;> simp only [heq])
      | (split at h)
theorem runJ_nat {t : T} (hcall : ∀ f vs L n (r : V → HL → HL → HL → Nat → Option T) (q : V → HL → HL → HL → Nat → Prop), (∀ v rd cs pr n, r v rd cs pr n = some t → q v rd cs pr n) → callO f vs L n r = some t → callP f vs L n q) :
    ∀ {js : List J} {fr : Fr} {L : HL} {n : Nat} {acc : Keys} {r : Keys → Fr → HL → Nat → Option T} {q : Keys → Fr → HL → Nat → Prop}, (∀ acc fr L n, r acc fr L n = some t → q acc fr L n) → runJ (AnsO T) gid callO js fr L n acc r = some t → runJ AnsP gid callP js fr L n acc q
  | [], fr, L, n, acc, r, q, hr, h => hr _ _ _ _ h
  | ⟨d, g, i⟩ :: js, fr, L, n, acc, r, q, hr, h => by
    have go : ∀ fr', stp (AnsO T) gid callO fr' L n (fun v rd cs pr n' => delsK cs L fun L' => appK (AnsO T) pr L' fun L' => (AnsO T).frcR v fun v => setK fr' d v fun fr => (AnsO T).frcN n' fun n' => runJ (AnsO T) gid callO js fr L' n' ((rd, cs, pr) :: acc) r) i = some t →
        stp AnsP gid callP fr' L n (fun v rd cs pr n' => delsK cs L fun L' => appK AnsP pr L' fun L' => AnsP.frcR v fun v => setK fr' d v fun fr => AnsP.frcN n' fun n' => runJ AnsP gid callP js fr L' n' ((rd, cs, pr) :: acc) q) i := fun fr' h =>
      stp_nat hcall (fun v rd cs pr n' h => delsK_nat h fun L' h => appK_nat h fun L' h => frcR_nat h fun h => setK_nat h fun fr h => frcN_nat h fun h => runJ_nat hcall hr h) h
    have no : ∀ fr', setK fr' d undV (fun fr => runJ (AnsO T) gid callO js fr L n (([], [], []) :: acc) r) = some t → setK fr' d undV (fun fr => runJ AnsP gid callP js fr L n (([], [], []) :: acc) q) := fun fr' h =>
      setK_nat h fun fr h => runJ_nat hcall hr h
    rcases g with _ | ⟨s, p⟩
    · simp only [runJ] at h ⊢
      exact go _ h
    · simp only [runJ, AnsO_bad, AnsP_bad] at h ⊢
      split at h
      · rename_i b hb
        cases b <;> cases p
        · exact go _ h
        · exact no _ h
        · exact no _ h
        · exact go _ h
      · exact no _ h
      · exact no_nat h

variable {loopO : (Fr → HL → Nat → (Exit → Fr → HL → Nat → Option T) → Option T) → List Nat → Fr → HL → Nat → (Exit → Fr → HL → Nat → Option T) → Option T}
  {loopP : (Fr → HL → Nat → (Exit → Fr → HL → Nat → Prop) → Prop) → List Nat → Fr → HL → Nat → (Exit → Fr → HL → Nat → Prop) → Prop}
theorem wpG_nat {t : T} (hcall : ∀ f vs L n (r : V → HL → HL → HL → Nat → Option T) (q : V → HL → HL → HL → Nat → Prop), (∀ v rd cs pr n, r v rd cs pr n = some t → q v rd cs pr n) → callO f vs L n r = some t → callP f vs L n q)
    (hloop : ∀ (rO : Fr → HL → Nat → (Exit → Fr → HL → Nat → Option T) → Option T) (rP : Fr → HL → Nat → (Exit → Fr → HL → Nat → Prop) → Prop), (∀ fr L n (r : Exit → Fr → HL → Nat → Option T) (q : Exit → Fr → HL → Nat → Prop), (∀ e fr L n, r e fr L n = some t → q e fr L n) → rO fr L n r = some t → rP fr L n q) →
      ∀ ks fr L n (r : Exit → Fr → HL → Nat → Option T) (q : Exit → Fr → HL → Nat → Prop), (∀ e fr L n, r e fr L n = some t → q e fr L n) → loopO rO ks fr L n r = some t → loopP rP ks fr L n q) :
    ∀ {c : C} {fr : Fr} {L : HL} {n : Nat} {r : Exit → Fr → HL → Nat → Option T} {q : Exit → Fr → HL → Nat → Prop}, (∀ e fr L n, r e fr L n = some t → q e fr L n) → wpG (AnsO T) gid callO loopO c fr L n r = some t → wpG AnsP gid callP loopP c fr L n q
  | .skip, fr, L, n, r, q, hr, h => hr _ _ _ _ h
  | .exit i, fr, L, n, r, q, hr, h => hr _ _ _ _ h
  | .ret, fr, L, n, r, q, hr, h => hr _ _ _ _ h
  | .reg an ks js, fr, L, n, r, q, hr, h => by
    cases an with
    | none =>
      simp only [wpG] at h ⊢
      exact runJ_nat hcall (fun acc fr L n h => keepK_nat h fun fr h => hr _ _ _ _ h) h
    | some an =>
      simp only [wpG] at h ⊢
      exact runJ_nat hcall (fun acc fr L n h => cnd_nat h fun h => keepK_nat h fun fr h => hr _ _ _ _ h) h
  | .seq a b, fr, L, n, r, q, hr, h => by
    simp only [wpG] at h ⊢
    refine wpG_nat hcall hloop (fun e fr L n h => ?_) h
    cases e with
    | normal => exact wpG_nat hcall hloop hr h
    | _ => exact hr _ _ _ _ h
  | .cond o a b, fr, L, n, r, q, hr, h => by
    simp only [wpG, AnsO_bad, AnsP_bad] at h ⊢
    split at h
    · rename_i b hb
      cases b
      · exact wpG_nat hcall hloop hr h
      · exact wpG_nat hcall hloop hr h
    · exact no_nat h
  | .block i b, fr, L, n, r, q, hr, h => by
    simp only [wpG] at h ⊢
    refine wpG_nat hcall hloop (fun e fr L n h => ?_) h
    cases e with
    | exit id' =>
      change (if id' = i then r .normal fr L n else r (.exit id') fr L n) = some t at h
      change (if id' = i then q .normal fr L n else q (.exit id') fr L n)
      by_cases e : id' = i
      · rw [if_pos e] at h ⊢; exact hr _ _ _ _ h
      · rw [if_neg e] at h ⊢; exact hr _ _ _ _ h
    | _ => exact hr _ _ _ _ h
  | .loop ks b, fr, L, n, r, q, hr, h => by
    simp only [wpG] at h ⊢
    exact keepK_nat h fun fr h => hloop (fun fr L n r => wpG (AnsO T) gid callO loopO b fr L n r) _ (fun fr L n r q hr h => wpG_nat hcall hloop hr h) _ _ _ _ _ _ hr h
end

/-! ### What can be come to -/
mutual
def refsV : V → List Nat
  | .val _ => []
  | .any => []
  | .ptr b _ => [b]
  | .sl b _ _ => [b]
  | .mp b => [b]
  | .fn _ cs => refsL cs
  | .agg cs => refsL cs
  | .tup cs => refsL cs
def refsL : List V → List Nat
  | [] => []
  | v :: vs => refsV v ++ refsL vs
end
def refsB : Blk → List Nat
  | .own _ cs => refsL cs
  | _ => []
/-- The blocks that can be come to from some. -/
def reach {R : Type} (L : HL) : Nat → List Nat → HL → (HL → R) → R
  | 0, _, acc, k => k acc
  | _ + 1, [], acc, k => k acc
  | m + 1, b :: todo, acc, k => match lk acc b with
    | some _ => reach L m todo acc k
    | none => match lk L b with
      | some x => natF b fun b => reach L m (refsB x ++ todo) ((b, x) :: acc) k
      | none => reach L m todo acc k
theorem reach_eq {R : Type} {L : HL} : ∀ (m : Nat) (todo : List Nat) (acc : HL) (k : HL → R), (∀ b x, (b, x) ∈ acc → lk L b = some x) → ∃ M, reach L m todo acc k = k M ∧ ∀ b x, (b, x) ∈ M → lk L b = some x
  | 0, _, acc, k, h => ⟨acc, rfl, h⟩
  | _ + 1, [], acc, k, h => ⟨acc, rfl, h⟩
  | m + 1, b :: todo, acc, k, h => by
    simp only [reach]
    split
    · exact reach_eq m todo acc k h
    · split
      · rename_i x hx
        rw [natF_eq]
        refine reach_eq m _ _ k fun c y hm => ?_
        rcases List.mem_cons.1 hm with e | hm
        · cases e; exact hx
        · exact h c y hm
      · exact reach_eq m todo acc k h
/-- Blocks that nobody can come to any more are let go. -/
def gcK {R : Type} (gbs : List Nat) (fr : Fr) (L : HL) (k : HL → R) : R := reach L 100000 (gbs ++ refsL (fr.map (·.2))) [] k
theorem lk_mem : ∀ {L : HL} {b : Nat} {k : Blk}, lk L b = some k → (b, k) ∈ L
  | [], b, k, h => by simp [lk] at h
  | (c, x) :: L, b, k, h => by
    simp only [lk] at h
    split at h
    · rename_i e; cases h; rw [e]; exact List.mem_cons_self ..
    · exact List.mem_cons_of_mem _ (lk_mem h)
theorem WSt.sub {P : Program} {gid : Nat → Option Nat} {E : Ent} {ρ : Env} {H H2 : Hp} {w : World} (h : WSt P gid E ρ H w) (hs : ∀ b k, H2 b = some k → H b = some k) : WSt P gid E ρ H2 w :=
  ⟨⟨fun b k hb => h.own.ok b k (hs b k hb), fun b b' k k' g hne hb hb' => h.own.sep b b' k k' g hne (hs _ _ hb) (hs _ _ hb')⟩, h.ext, h.kept, fun b k g hb => h.mine b k g (hs b k hb), h.glob⟩
theorem weak_sub {P : Program} {gid : Nat → Option Nat} {N kk : Nat} {fr : Fr} {L L2 : HL} {n : Nat} (hs : ∀ b k, lk L2 b = some k → lk L b = some k) : Weak P gid N kk fr L n fr L2 n :=
  fun E ρ a w _ h => ⟨ρ, h.w.sub hs, h.f, h.fresh, h.kn⟩

/-! ### The run -/
def itO {T : Type} (gbs : List Nat) : Nat → (Fr → HL → Nat → (Exit → Fr → HL → Nat → Option T) → Option T) → List Nat → Fr → HL → Nat → (Exit → Fr → HL → Nat → Option T) → Option T
  | 0, _, _, _, _, _, _ => none
  | m + 1, round, ks, fr, L, n, Q => round fr L n fun e fr' L' n' => match e with
    | .normal => keepK (AnsO T) ks fr' fun fr' => gcK gbs fr' L' fun L' => itO gbs m round ks fr' L' n' Q
    | e => Q e fr' L' n'

theorem itO_nat {T : Type} {t : T} {gbs : List Nat} {P : Program} {gid : Nat → Option Nat} {N kk : Nat} (rO : Fr → HL → Nat → (Exit → Fr → HL → Nat → Option T) → Option T) (rP : Fr → HL → Nat → (Exit → Fr → HL → Nat → Prop) → Prop)
    (hR : ∀ fr L n (r : Exit → Fr → HL → Nat → Option T) (q : Exit → Fr → HL → Nat → Prop), (∀ e fr L n, r e fr L n = some t → q e fr L n) → rO fr L n r = some t → rP fr L n q) (ks : List Nat) {r : Exit → Fr → HL → Nat → Option T} {q : Exit → Fr → HL → Nat → Prop}
    (hr : ∀ e fr L n, r e fr L n = some t → q e fr L n) : ∀ (m : Nat) (fr : Fr) (L : HL) (n : Nat), itO gbs m rO ks fr L n r = some t → LoopK P gid N kk rP ks fr L n q
  | 0, _, _, _, h => by simp [itO] at h
  | m + 1, fr, L, n, h => by
    intro X hX hW
    simp only [itO] at h
    refine hX _ _ _ (hR _ _ _ _ _ (fun e fr L n h => ?_) h)
    cases e with
    | normal =>
      refine keepK_nat h fun fr h => ?_
      obtain ⟨M, hM, hs⟩ := reach_eq (L := L) 100000 (gbs ++ refsL (fr.map (·.2))) [] (fun L' => itO gbs m rO ks fr L' n r) fun _ _ h => by cases h
      have h2 : itO gbs m rO ks fr M n r = some t := by rw [← hM]; exact h
      exact hW _ _ _ _ _ _ (weak_sub fun b k hb => hs b k (lk_mem hb)) (itO_nat rO rP hR ks hr m fr M n h2 X hX hW)
    | _ => exact hr _ _ _ _ h

mutual
/-- All numbers of blocks are below a bound. -/
def idsV (n : Nat) : V → Bool
  | .val _ => true
  | .any => true
  | .ptr b _ => decide (b < n)
  | .sl b _ _ => decide (b < n)
  | .mp b => decide (b < n)
  | .fn _ cs => idsL n cs
  | .agg cs => idsL n cs
  | .tup cs => idsL n cs
def idsL (n : Nat) : List V → Bool
  | [] => true
  | v :: vs => idsV n v && idsL n vs
end
def idsB (n : Nat) : Blk → Bool
  | .own _ cs => idsL n cs
  | _ => true
def idsH (n : Nat) : HL → Bool
  | [] => true
  | (b, k) :: r => decide (b < n) && (idsB n k && ((keysOf r).all (fun c => !decide (c = b)) && idsH n r))

def idl (n : Nat) : List Src := (List.range n).map .old
theorem idl_get {n i : Nat} (h : i < n) : (idl n)[i]? = some (.old i) := by simp [idl, h]
mutual
theorem ren_id {n : Nat} : ∀ (v : V), idsV n v = true → Ren (pi (idl n)) v v
  | .val _, h => by simp [Ren]
  | .any, h => by simp [Ren]
  | .ptr b o, h => by simp [idsV] at h; simp [Ren, pi, idl_get h]
  | .sl b o l, h => by simp [idsV] at h; simp [Ren, pi, idl_get h]
  | .mp b, h => by simp [idsV] at h; simp [Ren, pi, idl_get h]
  | .fn f cs, h => by simp only [idsV] at h; simp only [Ren]; exact ⟨_, rfl, renL_id cs h⟩
  | .agg cs, h => by simp only [idsV] at h; simp only [Ren]; exact ⟨_, rfl, renL_id cs h⟩
  | .tup cs, h => by simp only [idsV] at h; simp only [Ren]; exact ⟨_, rfl, renL_id cs h⟩
theorem renL_id {n : Nat} : ∀ (v : List V), idsL n v = true → RenL (pi (idl n)) v v
  | [], h => by simp [RenL]
  | v :: vs, h => by
    simp only [idsL, Bool.and_eq_true] at h
    simp only [RenL]
    exact ⟨ren_id v h.1, renL_id vs h.2⟩
end

def ros (L : HL) : HL := L.filter fun p => !p.2.mine
def owns (L : HL) : HL := L.filter fun p => p.2.mine

/-- What a function's result is read from. -/
inductive Rs where
  | tmp (t : Nat)
  | cell (a t : Nat) (m : Option Nat)

def rsV (fr : Fr) (L : HL) : Rs → Option V
  | .tmp t => some (fget fr t)
  | .cell a _ m => match fget fr a with
    | .ptr b o => match lk L b with
      | some (.own _ cs) => match m with
        | none => cs[o]?
        | some m => if o + m ≤ cs.length then some (.agg ((cs.drop o).take m)) else none
      | _ => none
    | _ => none
def rsL (fr : Fr) (L : HL) : List Rs → Option (List V)
  | [] => some []
  | r :: rs => match rsV fr L r with
    | some v => match rsL fr L rs with
      | some vs => some (v :: vs)
      | none => none
    | none => none

section
variable (gid : Nat → Option Nat) (gb : Nat) (gbs : List Nat) (tab : Nat → Option (C × List Rs × Nat))
/-- A function's run: what it returns, the blocks behind it, the next number. -/
def exec : Nat → Nat → List V → HL → Nat → Option (V × HL × Nat)
  | 0, _, _, _, _ => none
  | m + 1, f, args, L, n => match tab f with
    | none => none
    | some (c, rs, N) => if args.length ≤ N then
      match wpG (AnsO (V × HL × Nat)) gid (fun f args L n k => reach L 100000 (gbs ++ refsL args) [] fun L => match exec m f args L n with
        | some (v, L', n') => if idsL n args && (idsH n L && decide (gb ≤ n)) then reach L' 100000 (refsV v ++ keysOf L) [] fun L'' => k v (ros L) (owns L) (owns L'') n' else none
        | none => none) (itO (gbs ++ keysOf (owns L)) m) c (initFr args) L n (fun e fr L n' => match e with
        | .ret | .normal => match rsL fr L rs with
          | some vs => deep (tupV vs) fun v => some (v, L, n')
          | none => none
        | _ => none) with
      | some (v, L, n') => if idsV n' v && (idsH n' L && decide (n ≤ n')) then some (v, L, n') else none
      | none => none
      else none
end

/-- Is the table the program's? -/
def rsEq (P : Program) : List ResultVar → List Rs → Bool
  | [], [] => true
  | .tmp t :: l, .tmp t' :: l' => decide (t = t') && rsEq P l l'
  | .cell a t :: l, .cell a' t' m :: l' => decide (a = a') && (decide (t = t') && (tySize P t m && rsEq P l l'))
  | _, _ => false
def tabOk (P : Program) (f : Nat) (c : C) (rs : List Rs) (N : Nat) : Bool :=
  match P.funcs[f]? with
  | some fn => match fn.body with
    | some b => decide (N ≤ fn.ntmps) && (chk P fn.ntmps b c && (rsEq P fn.results.toList rs && !(fn.name == "runtime.NumGoroutine")))
    | none => false
  | none => false

theorem idsH_lk {n : Nat} : ∀ {L : HL}, idsH n L = true → ∀ b k, (b, k) ∈ L → lk L b = some k ∧ b < n ∧ idsB n k = true
  | [], _, b, k, h => by cases h
  | (c, x) :: L, h, b, k, hm => by
    simp only [idsH, Bool.and_eq_true, decide_eq_true_eq] at h
    obtain ⟨h1, h2, h3, h4⟩ := h
    rcases List.mem_cons.1 hm with e | hm
    · cases e; exact ⟨by simp [lk], h1, h2⟩
    · have ih := idsH_lk h4 b k hm
      refine ⟨?_, ih.2⟩
      simp only [lk]
      rw [if_neg]
      · exact ih.1
      · intro e
        have := List.all_eq_true.1 h3 b (List.mem_map.2 ⟨(b, k), hm, rfl⟩)
        simp [e] at this
theorem idsH_sub {n : Nat} {p : Nat × Blk → Bool} : ∀ {L : HL}, idsH n L = true → idsH n (L.filter p) = true
  | [], _ => rfl
  | (c, x) :: L, h => by
    simp only [idsH, Bool.and_eq_true, decide_eq_true_eq] at h
    obtain ⟨h1, h2, h3, h4⟩ := h
    rw [List.filter_cons]
    split
    · simp only [idsH, Bool.and_eq_true, decide_eq_true_eq]
      refine ⟨h1, h2, ?_, idsH_sub h4⟩
      refine List.all_eq_true.2 fun b hb => ?_
      obtain ⟨⟨b', k⟩, hm, rfl⟩ := List.mem_map.1 hb
      exact List.all_eq_true.1 h3 b' (List.mem_map.2 ⟨(b', k), (List.mem_filter.1 hm).1, rfl⟩)
    · exact idsH_sub h4

theorem renB_id {n : Nat} : ∀ {k : Blk}, idsB n k = true → RenB (pi (idl n)) k k
  | .ro _, _ => by simp [RenB]
  | .own _ cs, h => by simp only [RenB]; exact ⟨_, rfl, renL_id cs h⟩
  | .mp _, _ => by simp [RenB]
  | .it _ _, _ => by simp [RenB]
theorem renH_of {n : Nat} {L : HL} : ∀ {L2 : HL}, (∀ b k, (b, k) ∈ L2 → lk L b = some k ∧ b < n ∧ idsB n k = true) → RenH (pi (idl n)) L L2
  | [], _ => trivial
  | (b, k) :: r, h => by
    obtain ⟨h1, h2, h3⟩ := h b k (List.mem_cons_self ..)
    exact ⟨.inl ⟨b, k, idl_get h2, h1, renB_id h3⟩, renH_of fun b k hm => h b k (List.mem_cons_of_mem _ hm)⟩
theorem inj_id {n : Nat} (L : HL) : Inj (pi (idl n)) L := by
  have hold : ∀ b s, pi (idl n) b = some s → s = .old b := fun b s h => by
    unfold pi idl at h
    rw [List.getElem?_map] at h
    cases hr : (List.range n)[b]? with
    | none => simp [hr] at h
    | some x =>
      simp [hr] at h
      obtain ⟨_, hx⟩ := List.getElem?_eq_some_iff.1 hr
      simp at hx
      rw [← h, ← hx]
  refine ⟨fun b b' k k' i _ _ h1 h2 _ => ?_, fun b b' k k' i o _ _ _ h1 h2 => ?_⟩
  · have := hold _ _ h1; have := hold _ _ h2; simp_all
  · have := hold _ _ h2; simp at this
theorem idl_len (n : Nat) : (idl n).length = n := by simp [idl]

theorem sig_id {n n1 : Nat} (h : n ≤ n1) {b : Nat} (hb : b < n1) : sig (idl n) n n1 b = some b := by
  unfold sig
  by_cases hn : b < n
  · rw [idl_get hn]
  · have : (idl n)[b]? = none := by rw [List.getElem?_eq_none_iff]; rw [idl_len]; omega
    rw [this]
    simp only [idl_len]
    rw [if_pos hb]
    congr 1
    omega
mutual
theorem fw_id {σ : Nat → Option Nat} {n1 : Nat} (h : ∀ b, b < n1 → σ b = some b) : ∀ (v : V), idsV n1 v = true → Fw σ v v
  | .val _, _ => by simp [Fw]
  | .any, _ => by simp [Fw]
  | .ptr b o, hv => by simp [idsV] at hv; simp only [Fw]; exact ⟨b, h b hv, rfl⟩
  | .sl b o l, hv => by simp [idsV] at hv; simp only [Fw]; exact ⟨b, h b hv, rfl⟩
  | .mp b, hv => by simp [idsV] at hv; simp only [Fw]; exact ⟨b, h b hv, rfl⟩
  | .fn f cs, hv => by simp only [idsV] at hv; simp only [Fw]; exact ⟨_, rfl, fwL_id h cs hv⟩
  | .agg cs, hv => by simp only [idsV] at hv; simp only [Fw]; exact ⟨_, rfl, fwL_id h cs hv⟩
  | .tup cs, hv => by simp only [idsV] at hv; simp only [Fw]; exact ⟨_, rfl, fwL_id h cs hv⟩
theorem fwL_id {σ : Nat → Option Nat} {n1 : Nat} (h : ∀ b, b < n1 → σ b = some b) : ∀ (v : List V), idsL n1 v = true → FwL σ v v
  | [], _ => by simp [FwL]
  | v :: vs, hv => by
    simp only [idsL, Bool.and_eq_true] at hv
    simp only [FwL]
    exact ⟨_, _, rfl, fw_id h v hv.1, fwL_id h vs hv.2⟩
end
theorem fwB_id {σ : Nat → Option Nat} {n1 : Nat} (h : ∀ b, b < n1 → σ b = some b) : ∀ {k : Blk}, idsB n1 k = true → FwB σ k k
  | .ro _, _ => by simp [FwB]
  | .own _ cs, hk => by simp only [FwB]; exact ⟨_, rfl, fwL_id h cs hk⟩
  | .mp _, _ => by simp [FwB]
  | .it _ _, _ => by simp [FwB]
theorem fwH_id {σ : Nat → Option Nat} {n1 : Nat} (h : ∀ b, b < n1 → σ b = some b) {L1 : HL} : ∀ {pr : HL}, (∀ b k, (b, k) ∈ pr → k.mine = true ∧ lk L1 b = some k ∧ b < n1 ∧ idsB n1 k = true) → FwH σ L1 pr
  | [], _ => trivial
  | (b, k) :: r, hp => by
    obtain ⟨h1, h2, h3, h4⟩ := hp b k (List.mem_cons_self ..)
    exact ⟨h1, ⟨b, k, h b h3, h2, fwB_id h h4⟩, fwH_id h fun b k hm => hp b k (List.mem_cons_of_mem _ hm)⟩

section
variable {P : Program} {gid : Nat → Option Nat}
theorem rs_ok {fr : Fr} {L : HL} : ∀ {rs : List ResultVar} {rs' : List Rs} {vs : List V}, rsEq P rs rs' = true → rsL fr L rs' = some vs → ResL P fr L rs vs
  | [], [], vs, _, h => by simp [rsL] at h; subst h; trivial
  | .tmp t :: l, .tmp t' :: l', vs, he, h => by
    simp only [rsEq, Bool.and_eq_true, decide_eq_true_eq] at he
    obtain ⟨rfl, he⟩ := he
    simp only [rsL, rsV] at h
    split at h
    · rename_i vs' hvs
      cases h
      exact ⟨rfl, rs_ok he hvs⟩
    · cases h
  | .cell a t :: l, .cell a' t' m :: l', vs, he, h => by
    simp only [rsEq, Bool.and_eq_true, decide_eq_true_eq] at he
    obtain ⟨rfl, rfl, hm, he⟩ := he
    simp only [rsL] at h
    split at h
    · rename_i v hv
      split at h
      · rename_i vs' hvs
        cases h
        refine ⟨?_, rs_ok he hvs⟩
        simp only [rsV] at hv
        split at hv
        · rename_i b o hp
          split at hv
          · rename_i e cs hb
            unfold tySize at hm
            split at hm
            · rename_i td i htd hi
              refine ⟨b, o, e, cs, hp, hb, td, i, htd, hi, ?_⟩
              split at hv
              · simp at hm; exact .inl ⟨hm, hv⟩
              · simp at hm
                obtain ⟨h1, rfl⟩ := hm
                split at hv
                · rename_i hle; cases hv; exact .inr ⟨h1, hle, rfl⟩
                · cases hv
            · cases hm
          · cases hv
        · cases hv
      · cases h
    · cases h
  | [], _ :: _, _, he, _ => by simp [rsEq] at he
  | .tmp _ :: _, [], _, he, _ => by simp [rsEq] at he
  | .cell _ _ :: _, [], _, he, _ => by simp [rsEq] at he
  | .tmp _ :: _, .cell _ _ _ :: _, _, he, _ => by simp [rsEq] at he
  | .cell _ _ :: _, .tmp _ :: _, _, he, _ => by simp [rsEq] at he

/-- WHAT THE RUN RETURNS THE FUNCTION RETURNS. -/
theorem exec_call {T : Type} {t : T} {gb : Nat} {gbs : List Nat} (hgb : ∀ g id, gid g = some id → id < gb) {ex : Nat → List V → HL → Nat → Option (V × HL × Nat)}
    (hex : ∀ f args L n v L1 n1, ex f args L n = some (v, L1, n1) → FnOK P gid f n args L v L1 n1 ∧ idsV n1 v = true ∧ idsH n1 L1 = true) {f : FuncId} {vs : List V} {L : HL} {n : Nat} {r : V → HL → HL → HL → Nat → Option T} {q : V → HL → HL → HL → Nat → Prop}
    (hr : ∀ v rd cs pr n, r v rd cs pr n = some t → q v rd cs pr n) (h : (reach L 100000 (gbs ++ refsL vs) [] fun L => match ex f vs L n with
      | some (v, L', n') => if idsL n vs && (idsH n L && decide (gb ≤ n)) then reach L' 100000 (refsV v ++ keysOf L) [] fun L'' => r v (ros L) (owns L) (owns L'') n' else none
      | none => none) = some t) : CallK P gid f vs L n q := by
  obtain ⟨L0, hL0, hsub⟩ := reach_eq (L := L) 100000 (gbs ++ refsL vs) [] (fun L => match ex f vs L n with
      | some (v, L', n') => if idsL n vs && (idsH n L && decide (gb ≤ n)) then reach L' 100000 (refsV v ++ keysOf L) [] fun L'' => r v (ros L) (owns L) (owns L'') n' else none
      | none => none) fun _ _ h => by cases h
  rw [hL0] at h
  clear hL0
  split at h
  · rename_i v' L' n' he
    split at h
    · rename_i hck
      simp only [Bool.and_eq_true, decide_eq_true_eq] at hck
      obtain ⟨ha, hL, hg⟩ := hck
      obtain ⟨L2, hL2, hsub2⟩ := reach_eq (L := L') 100000 (refsV v' ++ keysOf L0) [] (fun L'' => r v' (ros L0) (owns L0) (owns L'') n') fun _ _ h => by cases h
      rw [hL2] at h
      clear hL2
      obtain ⟨hF, hv, hL'⟩ := hex f vs L0 n v' L' n' he
      have hle := hF.le
      have hlk := fun b k => idsH_lk (L := L0) hL b k
      have hlk' := fun b k => idsH_lk (L := L') hL' b k
      have hsplit : ∀ b k, (b, k) ∈ L0 → lk (ros L0 ++ owns L0) b = some k := by
        intro b k hm
        rw [lk_append]
        by_cases hmn : k.mine = true
        · have hno : lk (ros L0) b = none := by
            cases hr : lk (ros L0) b with
            | none => rfl
            | some k2 =>
              have h4 := List.mem_filter.1 (lk_mem hr)
              have h5 := (hlk _ _ h4.1).1
              rw [(hlk _ _ hm).1] at h5
              cases h5
              simp [hmn] at h4
          rw [hno]
          exact (idsH_lk (idsH_sub hL) b k (List.mem_filter.2 ⟨hm, hmn⟩)).1
        · have : lk (ros L0) b = some k := (idsH_lk (idsH_sub hL) b k (List.mem_filter.2 ⟨hm, by simp [hmn]⟩)).1
          rw [this]
      refine ⟨n, n', vs, L0, L', v', v', idl n, ros L0, owns L0, owns L2, hF, idl_len n, fun g id hid => idl_get (Nat.lt_of_lt_of_le (hgb g id hid) hg), renH_of fun b k hm => ⟨hsplit b k hm, (hlk b k hm).2⟩, inj_id L0, ?_, ?_, renL_id vs ha, fw_id (fun b hb => sig_id hle hb) v' hv, fwH_id (fun b hb => sig_id hle hb) fun b k hm => ?_, ?_, ?_, ?_⟩
      · have : ∀ M : HL, (∀ b k, (b, k) ∈ M → (b, k) ∈ L0) → Gives (pi (idl n)) (owns L0) M := by
          intro M
          induction M with
          | nil => intro _; trivial
          | cons p M ih =>
            intro hM
            obtain ⟨b, k⟩ := p
            have hm := hM b k (List.mem_cons_self ..)
            refine ⟨fun hmn => .inl ⟨b, idl_get (hlk b k hm).2.1, ?_⟩, ih fun b k hm => hM b k (List.mem_cons_of_mem _ hm)⟩
            have := (idsH_lk (idsH_sub (p := fun p => p.2.mine) hL) b k (List.mem_filter.2 ⟨hm, hmn⟩)).1
            unfold owns
            rw [this]
            rfl
        exact this L0 fun _ _ h => h
      · have : ∀ M : HL, (∀ b k, (b, k) ∈ M → k.mine = true) → allMine M := by
          intro M
          induction M with
          | nil => intro _; trivial
          | cons p M ih =>
            intro hM
            obtain ⟨b, k⟩ := p
            exact ⟨hM b k (List.mem_cons_self ..), ih fun b k hm => hM b k (List.mem_cons_of_mem _ hm)⟩
        exact this _ fun b k hm => (List.mem_filter.1 hm).2
      · have hm' := List.mem_filter.1 hm
        have h8 := hsub2 b k hm'.1
        exact ⟨hm'.2, hlk' b k (lk_mem h8)⟩
      · intro b k hb
        exact hsub b k (List.mem_filter.1 (lk_mem hb)).1
      · intro b k hb
        exact hsub b k (List.mem_filter.1 (lk_mem hb)).1
      · have : n + (n' - n) = n' := by omega
        rw [this]
        exact hr _ _ _ _ _ h
    · cases h
  · cases h

theorem exec_ok {gb : Nat} {gbs : List Nat} (hgb : ∀ g id, gid g = some id → id < gb) {tab : Nat → Option (C × List Rs × Nat)} (htab : ∀ f c rs N, tab f = some (c, rs, N) → tabOk P f c rs N = true) :
    ∀ (m f : Nat) (args : List V) (L : HL) (n : Nat) (v : V) (L1 : HL) (n1 : Nat), exec gid gb gbs tab m f args L n = some (v, L1, n1) → FnOK P gid f n args L v L1 n1 ∧ idsV n1 v = true ∧ idsH n1 L1 = true
  | 0, f, args, L, n, v, L1, n1, h => by simp [exec] at h
  | m + 1, f, args, L, n, v, L1, n1, h => by
    simp only [exec] at h
    split at h
    · cases h
    · rename_i c rs N hc
      have ht := htab f c rs N hc
      unfold tabOk at ht
      split at ht
      · rename_i fn hfn
        split at ht
        · rename_i b hb
          simp only [Bool.and_eq_true, Bool.not_eq_true', beq_eq_false_iff_ne, ne_eq, decide_eq_true_eq] at ht
          obtain ⟨hN, h1, h2, h3⟩ := ht
          split at h
          · rename_i hlen
            split at h
            · rename_i v0 L0 n0 hw
              split at h
              · rename_i hck
                simp only [Bool.and_eq_true, decide_eq_true_eq] at hck
                obtain ⟨hv, hL, hn⟩ := hck
                cases h
                refine ⟨?_, hv, hL⟩
                refine FnOK.intro hfn hb h3 hn (Nat.le_trans hlen hN) (wpE_sound h1 (wpG_nat (t := (v, L1, n1)) (gid := gid) (callP := CallK P gid) (loopP := LoopK P gid fn.ntmps n) ?_ ?_ ?_ hw))
                · exact fun f vs L n r q hr h => exec_call (gbs := gbs) hgb (fun f args L n v L1 n1 => exec_ok hgb htab m f args L n v L1 n1) hr h
                · intro rO rP hR ks fr L n' r q hr h
                  exact itO_nat rO rP hR ks hr m fr L n' h
                · intro e fr L' n' h
                  have go : (match rsL fr L' rs with
                    | some vs => deep (tupV vs) fun v => some (v, L', n')
                    | none => none) = some (v, L1, n1) → (e = .ret ∨ e = .normal) → RetQ P fn.results.toList n v L1 n1 e fr L' n' := by
                    intro h he
                    split at h
                    · rename_i vs hvs
                      rw [deep_eq] at h
                      cases h
                      refine ⟨he, vs, pi (idl n1), rs_ok h2 hvs, ren_id _ hv, fun i hi => idl_get (by omega), fun i hi => ?_, renH_of fun b k hm => idsH_lk hL b k hm, inj_id _⟩
                      unfold pi
                      rw [List.getElem?_eq_none_iff, idl_len]
                      exact hi
                    · cases h
                  cases e with
                  | ret => exact go h (.inl rfl)
                  | normal => exact go h (.inr rfl)
                  | _ => cases h
              · cases h
            · cases h
          · cases h
        · cases ht
      · cases ht
end
end Go.Abs
