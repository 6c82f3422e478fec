/- Ways to prove what code comes to: loops, calls, returns. -/
import Derived.Test.YtfeokfaccaenhaaDoorB2
import Derived.KernelRfl
set_option linter.unusedVariables false
set_option linter.unusedSimpArgs false
namespace Go.Abs

/-! ### What holds of more -/
theorem cnd_mono {p : Prop} [Decidable p] {q q' : Prop} (h : AnsP.cnd p q) (hq : q → q') : AnsP.cnd p q' := by
  rw [AnsP_cnd] at h ⊢; exact ⟨h.1, hq h.2⟩
theorem frc_mono {v : V} {q q' : V → Prop} (h : AnsP.frc v q) (hq : q v → q' v) : AnsP.frc v q' := by rw [AnsP_frc] at h ⊢; exact hq h
theorem delK_mono {b : Nat} : ∀ {L : HL} {q q' : HL → Prop}, delK b L q → (∀ L, q L → q' L) → delK b L q'
  | [], _, _, h, hr => hr _ h
  | (c, x) :: l, r, q, h, hr => by
    simp only [delK] at h ⊢
    split
    · rename_i e; rw [if_pos e] at h; exact delK_mono h hr
    · rename_i e; rw [if_neg e] at h; exact delK_mono h fun L hL => hr _ hL
theorem delsK_mono : ∀ {cs L : HL} {q q' : HL → Prop}, delsK cs L q → (∀ L, q L → q' L) → delsK cs L q'
  | [], _, _, _, h, hr => hr _ h
  | (b, _) :: cs, L, r, q, h, hr => by
    simp only [delsK] at h ⊢
    exact delK_mono h fun L hL => delsK_mono hL hr
theorem appK_mono : ∀ {pr L : HL} {q q' : HL → Prop}, appK AnsP pr L q → (∀ L, q L → q' L) → appK AnsP pr L q'
  | [], _, _, _, h, hr => hr _ h
  | (b, p) :: pr, L, r, q, h, hr => by
    simp only [appK, AnsP_frcB] at h ⊢
    exact appK_mono h fun L hL => hr _ hL
theorem setK_mono {fr : Fr} {d : Option Nat} {v : V} {q q' : Fr → Prop} (h : setK fr d v q) (hr : ∀ fr, q fr → q' fr) : setK fr d v q' := by
  cases d <;> exact hr _ h
theorem keepK_mono : ∀ {ks : List Nat} {fr : Fr} {q q' : Fr → Prop}, keepK AnsP ks fr q → (∀ fr, q fr → q' fr) → keepK AnsP ks fr q'
  | [], _, _, _, h, hr => hr _ h
  | s :: ss, fr, r, q, h, hr => by
    simp only [keepK, AnsP_frc] at h ⊢
    exact keepK_mono h fun L hL => hr _ hL
section
variable {gid : Nat → Option Nat}
theorem evs_mono {F : FF} : ∀ {xs : List Operand} {q q' : List V → Prop}, evs AnsP gid F xs q → (∀ l, q l → q' l) → evs AnsP gid F xs q'
  | [], _, _, h, hr => hr _ h
  | x :: xs, r, q, h, hr => by
    simp only [evs, AnsP_frc] at h ⊢
    exact evs_mono h fun L hL => hr _ hL
theorem prts_mono {F : FF} : ∀ {xs : List (Nat × Nat × Nat × Operand)} {q q' : List (Nat × V) → Prop}, prts AnsP gid F xs q → (∀ l, q l → q' l) → prts AnsP gid F xs q'
  | [], _, _, h, hr => hr _ h
  | (a, o, z, x) :: xs, r, q, h, hr => by
    simp only [prts, AnsP_frc] at h ⊢
    exact cnd_mono h fun h => prts_mono h fun L hL => hr _ hL
theorem bnd_mono {F : FF} {o : Option Operand} {d : Nat} {q q' : Nat → Prop} (h : bnd AnsP gid F o d q) (hr : ∀ l, q l → q' l) : bnd AnsP gid F o d q' := by
  cases o with
  | none => exact hr _ h
  | some y =>
    simp only [bnd] at h ⊢
    split at h
    · exact cnd_mono h (hr _)
    · cases h
theorem cellK_mono {b : Option Blk} {o : Nat} {q q' : V → Blk → Prop} (h : cellK AnsP b o q) (hr : ∀ v b, q v b → q' v b) : cellK AnsP b o q' := by
  unfold cellK at h ⊢
  split at h
  · split at h
    · exact hr _ _ h
    · cases h
  · split at h
    · exact hr _ _ h
    · cases h
  · cases h
theorem cellsK_mono {b : Option Blk} {o n : Nat} {q q' : List V → Blk → Prop} (h : cellsK AnsP b o n q) (hr : ∀ v b, q v b → q' v b) : cellsK AnsP b o n q' := by
  unfold cellsK at h ⊢
  split at h
  · exact cnd_mono h (hr _ _)
  · exact cnd_mono h (hr _ _)
  · cases h
theorem no_mono {q : Prop} (h : AnsP.bad) : q := h.elim

def Imp (p q : Prop) : Prop := p → q
theorem bad_imp : Imp AnsP.bad AnsP.bad := fun h => h
theorem cnd_imp {p : Prop} [Decidable p] {q q' : Prop} (h : Imp q q') : Imp (AnsP.cnd p q) (AnsP.cnd p q') := fun k => cnd_mono k h
theorem frc_imp {v : V} {q q' : V → Prop} (h : ∀ v, Imp (q v) (q' v)) : Imp (AnsP.frc v q) (AnsP.frc v q') := fun k => frc_mono k (h v)
theorem brT_imp {b : Bool} {q1 q1' q2 q2' : Prop} (h1 : Imp q1 q1') (h2 : Imp q2 q2') : Imp (brT b q1 q2) (brT b q1' q2') := fun k => by
  cases b
  · exact h2 k
  · exact h1 k
theorem evs_imp {F : FF} {xs : List Operand} {q q' : List V → Prop} (h : ∀ v, Imp (q v) (q' v)) : Imp (evs AnsP gid F xs q) (evs AnsP gid F xs q') := fun k => evs_mono k h
theorem prts_imp {F : FF} {xs : List (Nat × Nat × Nat × Operand)} {q q' : List (Nat × V) → Prop} (h : ∀ v, Imp (q v) (q' v)) : Imp (prts AnsP gid F xs q) (prts AnsP gid F xs q') := fun k => prts_mono k h
theorem bnd_imp {F : FF} {o : Option Operand} {d : Nat} {q q' : Nat → Prop} (h : ∀ v, Imp (q v) (q' v)) : Imp (bnd AnsP gid F o d q) (bnd AnsP gid F o d q') := fun k => bnd_mono k h
theorem cellK_imp {b : Option Blk} {o : Nat} {q q' : V → Blk → Prop} (h : ∀ v b, Imp (q v b) (q' v b)) : Imp (cellK AnsP b o q) (cellK AnsP b o q') := fun k => cellK_mono k h
theorem cellsK_imp {b : Option Blk} {o n : Nat} {q q' : List V → Blk → Prop} (h : ∀ v b, Imp (q v b) (q' v b)) : Imp (cellsK AnsP b o n q) (cellsK AnsP b o n q') := fun k => cellsK_mono k h

variable {P : Program} {callP callP' : FuncId → List V → HL → Nat → (V → HL → HL → HL → Nat → Prop) → Prop}
set_option maxHeartbeats 4000000 in
theorem stp_mono (hcall : ∀ f vs L n (r q : V → HL → HL → HL → Nat → Prop), (∀ v rd cs pr n, r v rd cs pr n → q v rd cs pr n) → callP f vs L n r → callP' f vs L n q)
    {fr : Fr} {L : HL} {n : Nat} {i : I} {r q : V → HL → HL → HL → Nat → Prop} (hr : ∀ v rd cs pr n, r v rd cs pr n → q v rd cs pr n) (h : stp AnsP gid callP fr L n r i) :
    stp AnsP gid callP' fr L n q i := by
  suffices hh : Imp (stp AnsP gid callP fr L n r i) (stp AnsP gid callP' fr L n q i) from hh h
  have hr' : ∀ v rd cs pr n, Imp (r v rd cs pr n) (q v rd cs pr n) := hr
  have hcall' : ∀ f vs L n, Imp (callP f vs L n r) (callP' f vs L n q) := fun f vs L n => hcall f vs L n r q hr
  clear h hr hcall
  cases i
  case' ld m x => cases m
  all_goals unfold stp
  all_goals
    repeat' first
      | with_reducible exact hr' _ _ _ _ _
      | with_reducible exact hcall' _ _ _ _
      | with_reducible exact bad_imp
      | with_reducible refine cnd_imp ?_
      | with_reducible refine frc_imp fun _ => ?_
      | with_reducible refine brT_imp ?_ ?_
      | with_reducible refine evs_imp fun _ => ?_
      | with_reducible refine prts_imp fun _ => ?_
      | with_reducible refine bnd_imp fun _ => ?_
      | with_reducible refine cellK_imp fun _ _ => ?_
      | with_reducible refine cellsK_imp fun _ _ => ?_
      | split

theorem runJ_mono (hcall : ∀ f vs L n (r q : V → HL → HL → HL → Nat → Prop), (∀ v rd cs pr n, r v rd cs pr n → q v rd cs pr n) → callP f vs L n r → callP' f vs L n q) :
    ∀ {js : List J} {fr : Fr} {L : HL} {n : Nat} {acc : Keys} {r q : Keys → Fr → HL → Nat → Prop}, (∀ acc fr L n, r acc fr L n → q acc fr L n) → runJ AnsP gid callP js fr L n acc r → runJ AnsP gid callP' js fr L n acc q
  | [], fr, L, n, acc, r, q, hr, h => hr _ _ _ _ h
  | ⟨d, g, i⟩ :: js, fr, L, n, acc, r, q, hr, h => by
    have go : ∀ fr', stp AnsP gid callP fr' L n (fun v rd cs pr n' => delsK cs L fun L' => appK AnsP pr L' fun L' => AnsP.frcR v fun v => setK fr' d v fun fr => AnsP.frcN n' fun n' => runJ AnsP gid callP js fr L' n' ((rd, cs, pr) :: acc) r) i →
        stp AnsP gid callP' fr' L n (fun v rd cs pr n' => delsK cs L fun L' => appK AnsP pr L' fun L' => AnsP.frcR v fun v => setK fr' d v fun fr => AnsP.frcN n' fun n' => runJ AnsP gid callP' js fr L' n' ((rd, cs, pr) :: acc) q) i := fun fr' h =>
      stp_mono hcall (fun v rd cs pr n' h => delsK_mono h fun L' h => appK_mono h fun L' h => setK_mono (q := fun fr => runJ AnsP gid callP js fr L' n' ((rd, cs, pr) :: acc) r) h fun fr h => runJ_mono hcall hr h) h
    have no : ∀ fr', setK fr' d undV (fun fr => runJ AnsP gid callP js fr L n (([], [], []) :: acc) r) → setK fr' d undV (fun fr => runJ AnsP gid callP' js fr L n (([], [], []) :: acc) q) := fun fr' h =>
      setK_mono h fun fr h => runJ_mono hcall hr h
    rcases g with _ | ⟨s, p⟩
    · simp only [runJ] at h ⊢
      exact go _ h
    · simp only [runJ] at h ⊢
      split at h
      · rename_i b hb
        cases b <;> cases p
        · exact go _ h
        · exact no _ h
        · exact no _ h
        · exact go _ h
      · exact no _ h
      · exact no_mono h

variable {loopP loopP' : (Fr → HL → Nat → (Exit → Fr → HL → Nat → Prop) → Prop) → List Nat → Fr → HL → Nat → (Exit → Fr → HL → Nat → Prop) → Prop}
theorem wpG_mono (hcall : ∀ f vs L n (r q : V → HL → HL → HL → Nat → Prop), (∀ v rd cs pr n, r v rd cs pr n → q v rd cs pr n) → callP f vs L n r → callP' f vs L n q)
    (hloop : ∀ (R R' : Fr → HL → Nat → (Exit → Fr → HL → Nat → Prop) → Prop), (∀ fr L n (r q : Exit → Fr → HL → Nat → Prop), (∀ e fr L n, r e fr L n → q e fr L n) → R fr L n r → R' fr L n q) →
      ∀ ks fr L n (r q : Exit → Fr → HL → Nat → Prop), (∀ e fr L n, r e fr L n → q e fr L n) → loopP R ks fr L n r → loopP' R' ks fr L n q) :
    ∀ {c : C} {fr : Fr} {L : HL} {n : Nat} {r q : Exit → Fr → HL → Nat → Prop}, (∀ e fr L n, r e fr L n → q e fr L n) → wpG AnsP gid callP loopP c fr L n r → wpG AnsP gid callP' loopP' c fr L n q
  | .skip, fr, L, n, r, q, hr, h => hr _ _ _ _ h
  | .exit i, fr, L, n, r, q, hr, h => hr _ _ _ _ h
  | .ret, fr, L, n, r, q, hr, h => hr _ _ _ _ h
  | .reg an ks js, fr, L, n, r, q, hr, h => by
    cases an with
    | none =>
      simp only [wpG] at h ⊢
      exact runJ_mono hcall (fun acc fr L n h => keepK_mono h fun fr h => hr _ _ _ _ h) h
    | some an =>
      simp only [wpG] at h ⊢
      exact runJ_mono hcall (fun acc fr L n h => cnd_mono h fun h => keepK_mono h fun fr h => hr _ _ _ _ h) h
  | .seq a b, fr, L, n, r, q, hr, h => by
    simp only [wpG] at h ⊢
    refine wpG_mono hcall hloop (fun e fr L n h => ?_) h
    cases e with
    | normal => exact wpG_mono hcall hloop hr h
    | _ => exact hr _ _ _ _ h
  | .cond o a b, fr, L, n, r, q, hr, h => by
    simp only [wpG] at h ⊢
    split at h
    · rename_i b hb
      cases b
      · exact wpG_mono hcall hloop hr h
      · exact wpG_mono hcall hloop hr h
    · exact no_mono h
  | .block i b, fr, L, n, r, q, hr, h => by
    simp only [wpG] at h ⊢
    refine wpG_mono hcall hloop (fun e fr L n h => ?_) h
    cases e with
    | exit id' =>
      change (if id' = i then r .normal fr L n else r (.exit id') fr L n) at h
      change (if id' = i then q .normal fr L n else q (.exit id') fr L n)
      by_cases e : id' = i
      · rw [if_pos e] at h ⊢; exact hr _ _ _ _ h
      · rw [if_neg e] at h ⊢; exact hr _ _ _ _ h
    | _ => exact hr _ _ _ _ h
  | .loop ks b, fr, L, n, r, q, hr, h => by
    simp only [wpG] at h ⊢
    exact keepK_mono h fun fr h => hloop (fun fr L n r => wpG AnsP gid callP loopP b fr L n r) (fun fr L n r => wpG AnsP gid callP' loopP' b fr L n r) (fun fr L n r q hr h => wpG_mono hcall hloop hr h) _ _ _ _ _ _ hr h

theorem CallK_mono (f : FuncId) (vs : List V) (L : HL) (n : Nat) (r q : V → HL → HL → HL → Nat → Prop) (hr : ∀ v rd cs pr n, r v rd cs pr n → q v rd cs pr n) (h : CallK P gid f vs L n r) : CallK P gid f vs L n q := by
  obtain ⟨kk, n1, args0, L0, L1, v, v2, l, rd, cs, pr, h1, h2, h3, h4, h5, h6, h7, h8, h9, h10, h11, h12, h13⟩ := h
  exact ⟨kk, n1, args0, L0, L1, v, v2, l, rd, cs, pr, h1, h2, h3, h4, h5, h6, h7, h8, h9, h10, h11, h12, hr _ _ _ _ _ h13⟩
theorem LoopK_mono {N kk : Nat} (R R' : Fr → HL → Nat → (Exit → Fr → HL → Nat → Prop) → Prop) (hR : ∀ fr L n (r q : Exit → Fr → HL → Nat → Prop), (∀ e fr L n, r e fr L n → q e fr L n) → R fr L n r → R' fr L n q)
    (ks : List Nat) (fr : Fr) (L : HL) (n : Nat) (r q : Exit → Fr → HL → Nat → Prop) (hr : ∀ e fr L n, r e fr L n → q e fr L n) (h : LoopK P gid N kk R ks fr L n r) : LoopK P gid N kk R' ks fr L n q := by
  intro X hX hW
  refine h X (fun fr L n h => hX fr L n (hR _ _ _ _ _ (fun e fr L n h => ?_) h)) hW
  cases e with
  | normal => exact h
  | _ => exact hr _ _ _ _ h
theorem wpE_mono {N kk : Nat} {c : C} {fr : Fr} {L : HL} {n : Nat} {r q : Exit → Fr → HL → Nat → Prop} (hr : ∀ e fr L n, r e fr L n → q e fr L n) (h : wpE P gid N kk c fr L n r) : wpE P gid N kk c fr L n q :=
  wpG_mono CallK_mono (fun R R' hR ks fr L n r q hr h => LoopK_mono R R' hR ks fr L n r q hr h) hr h

/-! ### The same evaluator by plain recursors: what the kernel comes to is what the elaborator comes to -/
section
variable {R : Type} (A : Ans R) (gd : Nat → Option Nat) (call : FuncId → List V → HL → Nat → (V → HL → HL → HL → Nat → R) → R)
def runF (j : J) (self : Fr → HL → Nat → Keys → (Keys → Fr → HL → Nat → R) → R) (fr : Fr) (L : HL) (n : Nat) (acc : Keys) (k : Keys → Fr → HL → Nat → R) : R :=
  match j with
  | ⟨d, g, i⟩ => match g with
    | none => stp A gd call fr L n (fun v rd cs pr n' => delsK cs L fun L' => appK A pr L' fun L' => A.frcR v fun v => setK fr d v fun fr => A.frcN n' fun n' => self fr L' n' ((rd, cs, pr) :: acc) k) i
    | some (s, p) => match fget fr s with
      | .val (.bool t) => brT t (match p with
          | true => stp A gd call ((s, .val (.bool true)) :: fr) L n (fun v rd cs pr n' => delsK cs L fun L' => appK A pr L' fun L' => A.frcR v fun v => setK ((s, .val (.bool true)) :: fr) d v fun fr => A.frcN n' fun n' => self fr L' n' ((rd, cs, pr) :: acc) k) i
          | false => setK ((s, .val (.bool true)) :: fr) d undV fun fr => self fr L n (([], [], []) :: acc) k) (match p with
          | true => setK ((s, .val (.bool false)) :: fr) d undV fun fr => self fr L n (([], [], []) :: acc) k
          | false => stp A gd call ((s, .val (.bool false)) :: fr) L n (fun v rd cs pr n' => delsK cs L fun L' => appK A pr L' fun L' => A.frcR v fun v => setK ((s, .val (.bool false)) :: fr) d v fun fr => A.frcN n' fun n' => self fr L' n' ((rd, cs, pr) :: acc) k) i)
      | .val (.tuple ⟨[]⟩) => setK fr d undV fun fr => self fr L n (([], [], []) :: acc) k
      | _ => A.bad
noncomputable def runN (js : List J) : Fr → HL → Nat → Keys → (Keys → Fr → HL → Nat → R) → R :=
  List.rec (motive := fun _ => Fr → HL → Nat → Keys → (Keys → Fr → HL → Nat → R) → R) (fun fr L n acc k => k acc fr L n) (fun j _ self => runF A gd call j self) js
theorem runN_eq : ∀ (js : List J), runN A gd call js = runJ A gd call js
  | [] => rfl
  | ⟨d, g, i⟩ :: js => by
    have ih := runN_eq js
    show runF A gd call ⟨d, g, i⟩ (runN A gd call js) = _
    rw [ih]
    funext fr L n acc k
    simp only [runF, runJ]
    rcases g with _ | ⟨s, p⟩
    · rfl
    · simp only []
      generalize fget fr s = x
      cases x with
      | val y =>
        cases y with
        | tuple a => obtain ⟨l⟩ := a; cases l <;> rfl
        | _ => rfl
      | _ => rfl
noncomputable def wpF (loop : Nat → C → (Fr → HL → Nat → (Exit → Fr → HL → Nat → R) → R) → List Nat → Fr → HL → Nat → (Exit → Fr → HL → Nat → R) → R) (m : Nat) (self : C → Fr → HL → Nat → (Exit → Fr → HL → Nat → R) → R) (c : C) (fr : Fr) (L : HL) (n : Nat) (Q : Exit → Fr → HL → Nat → R) : R :=
  match c with
  | .skip => Q .normal fr L n
  | .reg an ks ops => match an with
    | none => runN A gd call ops fr L n [] fun _ fr L n => keepK A ks fr fun fr => Q .normal fr L n
    | some an => runN A gd call ops fr L n [] fun acc fr L n => A.cnd (apartAll an.reverse acc = true) <| keepK A ks fr fun fr => Q .normal fr L n
  | .seq a b => self a fr L n fun e fr L n => match e with
    | .normal => self b fr L n Q
    | e => Q e fr L n
  | .cond c a b => match ev gd (fget fr) c with
    | .val (.bool t) => brT t (self a fr L n Q) (self b fr L n Q)
    | _ => A.bad
  | .block id c => self c fr L n fun e fr L n => match e with
    | .exit id' => if id' = id then Q .normal fr L n else Q (.exit id') fr L n
    | e => Q e fr L n
  | .exit id => Q (.exit id) fr L n
  | .ret => Q .ret fr L n
  | .loop ks c => keepK A ks fr fun fr => loop m c (fun fr L n Q => self c fr L n Q) ks fr L n Q
noncomputable def wpN (loop : Nat → C → (Fr → HL → Nat → (Exit → Fr → HL → Nat → R) → R) → List Nat → Fr → HL → Nat → (Exit → Fr → HL → Nat → R) → R) (m : Nat) : C → Fr → HL → Nat → (Exit → Fr → HL → Nat → R) → R :=
  Nat.rec (motive := fun _ => C → Fr → HL → Nat → (Exit → Fr → HL → Nat → R) → R) (fun _ _ _ _ _ => A.bad) (fun m self => wpF A gd call loop m self) m
end
/-- A call, a loop, shut up so that nobody looks inside. -/
structure CallS (P : Program) (gid : Nat → Option Nat) (f : FuncId) (args : List V) (L : HL) (n : Nat) (k : V → HL → HL → HL → Nat → Prop) : Prop where
  h : CallK P gid f args L n k
structure LoopS (P : Program) (gid : Nat → Option Nat) (N kk : Nat) (m : Nat) (c : C) (R : Fr → HL → Nat → (Exit → Fr → HL → Nat → Prop) → Prop) (ks : List Nat) (fr : Fr) (L : HL) (n : Nat) (Q : Exit → Fr → HL → Nat → Prop) : Prop where
  h : LoopK P gid N kk R ks fr L n Q
/-- What a function's code must come to. -/
abbrev wpX (P : Program) (gid : Nat → Option Nat) (N kk m : Nat) : C → Fr → HL → Nat → (Exit → Fr → HL → Nat → Prop) → Prop := wpN AnsP gid (CallS P gid) (LoopS P gid N kk) m
theorem wpN_G {lpP : Nat → C → (Fr → HL → Nat → (Exit → Fr → HL → Nat → Prop) → Prop) → List Nat → Fr → HL → Nat → (Exit → Fr → HL → Nat → Prop) → Prop} (hcall : ∀ f vs L n (r q : V → HL → HL → HL → Nat → Prop), (∀ v rd cs pr n, r v rd cs pr n → q v rd cs pr n) → callP f vs L n r → callP' f vs L n q)
    (hloop : ∀ (m : Nat) (c : C) (R R' : Fr → HL → Nat → (Exit → Fr → HL → Nat → Prop) → Prop), (∀ fr L n (r q : Exit → Fr → HL → Nat → Prop), (∀ e fr L n, r e fr L n → q e fr L n) → R fr L n r → R' fr L n q) →
      ∀ ks fr L n (r q : Exit → Fr → HL → Nat → Prop), (∀ e fr L n, r e fr L n → q e fr L n) → lpP m c R ks fr L n r → loopP' R' ks fr L n q) :
    ∀ {m : Nat} {c : C} {fr : Fr} {L : HL} {n : Nat} {r q : Exit → Fr → HL → Nat → Prop}, (∀ e fr L n, r e fr L n → q e fr L n) → wpN AnsP gid callP lpP m c fr L n r → wpG AnsP gid callP' loopP' c fr L n q
  | 0, c, fr, L, n, r, q, hr, h => h.elim
  | m + 1, c, fr, L, n, r, q, hr, h => by
    have h : wpF AnsP gid callP lpP m (wpN AnsP gid callP lpP m) c fr L n r := h
    cases c with
    | skip => exact hr _ _ _ _ h
    | exit i => exact hr _ _ _ _ h
    | ret => exact hr _ _ _ _ h
    | reg an ks js =>
      cases an with
      | none =>
        simp only [wpF, wpG, runN_eq] at h ⊢
        exact runJ_mono hcall (fun acc fr L n h => keepK_mono h fun fr h => hr _ _ _ _ h) h
      | some an =>
        simp only [wpF, wpG, runN_eq] at h ⊢
        exact runJ_mono hcall (fun acc fr L n h => cnd_mono h fun h => keepK_mono h fun fr h => hr _ _ _ _ h) h
    | seq a b =>
      simp only [wpF, wpG] at h ⊢
      refine wpN_G hcall hloop (fun e fr L n h => ?_) h
      cases e with
      | normal => exact wpN_G hcall hloop hr h
      | _ => exact hr _ _ _ _ h
    | cond o a b =>
      simp only [wpF, wpG] at h ⊢
      split at h
      · rename_i b hb
        rw [hb]
        cases b
        · exact wpN_G hcall hloop hr h
        · exact wpN_G hcall hloop hr h
      · exact no_mono h
    | block i b =>
      simp only [wpF, wpG] at h ⊢
      refine wpN_G hcall hloop (fun e fr L n h => ?_) h
      cases e with
      | exit id' =>
        change (if id' = i then r .normal fr L n else r (.exit id') fr L n) at h
        change (if id' = i then q .normal fr L n else q (.exit id') fr L n)
        by_cases e : id' = i
        · rw [if_pos e] at h ⊢; exact hr _ _ _ _ h
        · rw [if_neg e] at h ⊢; exact hr _ _ _ _ h
      | _ => exact hr _ _ _ _ h
    | loop ks b =>
      simp only [wpF, wpG] at h ⊢
      exact keepK_mono h fun fr h => hloop m b (fun fr L n r => wpN AnsP gid callP lpP m b fr L n r) (fun fr L n r => wpG AnsP gid callP' loopP' b fr L n r) (fun fr L n r q hr h => wpN_G hcall hloop hr h) _ _ _ _ _ _ hr h
theorem wpN_mono {lpP lpP' : Nat → C → (Fr → HL → Nat → (Exit → Fr → HL → Nat → Prop) → Prop) → List Nat → Fr → HL → Nat → (Exit → Fr → HL → Nat → Prop) → Prop} (hcall : ∀ f vs L n (r q : V → HL → HL → HL → Nat → Prop), (∀ v rd cs pr n, r v rd cs pr n → q v rd cs pr n) → callP f vs L n r → callP' f vs L n q)
    (hloop : ∀ (m : Nat) (c : C) (R R' : Fr → HL → Nat → (Exit → Fr → HL → Nat → Prop) → Prop), (∀ fr L n (r q : Exit → Fr → HL → Nat → Prop), (∀ e fr L n, r e fr L n → q e fr L n) → R fr L n r → R' fr L n q) →
      ∀ ks fr L n (r q : Exit → Fr → HL → Nat → Prop), (∀ e fr L n, r e fr L n → q e fr L n) → lpP m c R ks fr L n r → lpP' m c R' ks fr L n q) :
    ∀ {m : Nat} {c : C} {fr : Fr} {L : HL} {n : Nat} {r q : Exit → Fr → HL → Nat → Prop}, (∀ e fr L n, r e fr L n → q e fr L n) → wpN AnsP gid callP lpP m c fr L n r → wpN AnsP gid callP' lpP' m c fr L n q
  | 0, c, fr, L, n, r, q, hr, h => h.elim
  | m + 1, c, fr, L, n, r, q, hr, h => by
    have h : wpF AnsP gid callP lpP m (wpN AnsP gid callP lpP m) c fr L n r := h
    show wpF AnsP gid callP' lpP' m (wpN AnsP gid callP' lpP' m) c fr L n q
    cases c with
    | skip => exact hr _ _ _ _ h
    | exit i => exact hr _ _ _ _ h
    | ret => exact hr _ _ _ _ h
    | reg an ks js =>
      cases an with
      | none =>
        simp only [wpF, runN_eq] at h ⊢
        exact runJ_mono hcall (fun acc fr L n h => keepK_mono h fun fr h => hr _ _ _ _ h) h
      | some an =>
        simp only [wpF, runN_eq] at h ⊢
        exact runJ_mono hcall (fun acc fr L n h => cnd_mono h fun h => keepK_mono h fun fr h => hr _ _ _ _ h) h
    | seq a b =>
      simp only [wpF] at h ⊢
      refine wpN_mono hcall hloop (fun e fr L n h => ?_) h
      cases e with
      | normal => exact wpN_mono hcall hloop hr h
      | _ => exact hr _ _ _ _ h
    | cond o a b =>
      simp only [wpF] at h ⊢
      split at h
      · rename_i b hb
        cases b
        · exact wpN_mono hcall hloop hr h
        · exact wpN_mono hcall hloop hr h
      · exact no_mono h
    | block i b =>
      simp only [wpF] at h ⊢
      refine wpN_mono hcall hloop (fun e fr L n h => ?_) h
      cases e with
      | exit id' =>
        change (if id' = i then r .normal fr L n else r (.exit id') fr L n) at h
        change (if id' = i then q .normal fr L n else q (.exit id') fr L n)
        by_cases e : id' = i
        · rw [if_pos e] at h ⊢; exact hr _ _ _ _ h
        · rw [if_neg e] at h ⊢; exact hr _ _ _ _ h
      | _ => exact hr _ _ _ _ h
    | loop ks b =>
      simp only [wpF] at h ⊢
      exact keepK_mono h fun fr h => hloop m b (fun fr L n r => wpN AnsP gid callP lpP m b fr L n r) (fun fr L n r => wpN AnsP gid callP' lpP' m b fr L n r) (fun fr L n r q hr h => wpN_mono hcall hloop hr h) _ _ _ _ _ _ hr h
theorem wpX_sound {N kk m : Nat} {c : C} {fr : Fr} {L : HL} {n : Nat} {Q : Exit → Fr → HL → Nat → Prop} (h : wpX P gid N kk m c fr L n Q) : wpE P gid N kk c fr L n Q :=
  wpN_G (fun f vs L n r q hr h => CallK_mono f vs L n r q hr h.h) (fun _ _ R R' hR ks fr L n r q hr h => LoopK_mono R R' hR ks fr L n r q hr h.h) (fun _ _ _ _ h => h) h
theorem wpX_mono {N kk m : Nat} {c : C} {fr : Fr} {L : HL} {n : Nat} {r q : Exit → Fr → HL → Nat → Prop} (hr : ∀ e fr L n, r e fr L n → q e fr L n) (h : wpX P gid N kk m c fr L n r) : wpX P gid N kk m c fr L n q :=
  wpN_mono (fun f vs L n r q hr h => ⟨CallK_mono f vs L n r q hr h.h⟩) (fun _ _ R R' hR ks fr L n r q hr h => ⟨LoopK_mono R R' hR ks fr L n r q hr h.h⟩) hr h
/-- One more round. -/
theorem LoopS.round {N kk m : Nat} {c : C} {R : Fr → HL → Nat → (Exit → Fr → HL → Nat → Prop) → Prop} {ks : List Nat} {fr : Fr} {L : HL} {n : Nat} {Q : Exit → Fr → HL → Nat → Prop} (hR : R = fun fr L n Q => wpX P gid N kk m c fr L n Q)
    (h : wpX P gid N kk m c fr L n fun e fr' L' n' => match e with
      | .normal => keepK AnsP ks fr' fun fr' => LoopS P gid N kk m c R ks fr' L' n' Q
      | e => Q e fr' L' n') :
    LoopS P gid N kk m c R ks fr L n Q := by
  subst hR
  refine ⟨fun X hX hW => hX _ _ _ (wpX_mono (fun e fr' L' n' h => ?_) h)⟩
  cases e with
  | normal => exact keepK_mono h fun fr h => h.h X hX hW
  | _ => exact h
/-- One more round. -/
theorem LoopK.round {N kk : Nat} {c : C} {ks : List Nat} {fr : Fr} {L : HL} {n : Nat} {Q : Exit → Fr → HL → Nat → Prop}
    (h : wpG AnsP gid (CallK P gid) (LoopK P gid N kk) c fr L n fun e fr' L' n' => match e with
      | .normal => keepK AnsP ks fr' fun fr' => LoopK P gid N kk (fun fr L n Q => wpG AnsP gid (CallK P gid) (LoopK P gid N kk) c fr L n Q) ks fr' L' n' Q
      | e => Q e fr' L' n') :
    LoopK P gid N kk (fun fr L n Q => wpG AnsP gid (CallK P gid) (LoopK P gid N kk) c fr L n Q) ks fr L n Q := by
  intro X hX hW
  refine hX _ _ _ (wpE_mono (fun e fr' L' n' h => ?_) h)
  cases e with
  | normal => exact keepK_mono h fun fr h => h X hX hW
  | _ => exact h
end
end Go.Abs
