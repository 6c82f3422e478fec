/- The abstract logic, part 7: contracts of functions, calls. -/
import Derived.Test.YtfeokfaccaenhaaDoorA6
set_option linter.unusedVariables false
set_option linter.unusedSimpArgs false
namespace Go.Abs

/-- A renaming by a list. -/
def pi (l : List Src) : Nat → Option Src := fun i => l[i]?

section
variable (P : Program) (gid : Nat → Option Nat)

/-- THE CONTRACT OF A FUNCTION: called with 'args' over the blocks L0 (numbers below k) it returns v over the blocks L1 (numbers below n1; those below k are the old ones); no other real block that was there has turned. -/
structure FnOK (f : FuncId) (k : Nat) (args : List V) (L0 : HL) (v : V) (L1 : HL) (n1 : Nat) : Prop where
  le : k ≤ n1
  enter : ∀ xs w, (callFunc f xs).run P w = .ok (.enter f xs) w
  runs : ∀ (ρ : Env) (w : World) (xs : List Value), Own P ρ (lk L0) w → (∀ i, k ≤ i → ρ i = none) → (∀ g id, gid g = some id → id < k ∧ ∃ c, ρ id = some ⟨some ⟨g, 0, none⟩, c⟩) → VrL ρ args xs →
    Calls P f xs.toArray w fun e w' => ∃ x ρ', e = .returned x ∧ WSt P gid ⟨k, ρ, lk L0, w⟩ ρ' (lk L1) w' ∧ (∀ i, n1 ≤ i → ρ' i = none) ∧ Vr ρ' v x

/-- What a result variable tells. -/
def ResOk (fr : Fr) (L : HL) : ResultVar → V → Prop
  | .tmp t, v => v = fget fr t
  | .cell a t, v => ∃ b o e cs, fget fr a = .ptr b o ∧ lk L b = some (.own e cs) ∧ ∃ td i, P.underlying t = some td ∧ P.info? t = some i ∧
      ((aggD td = false ∧ cs[o]? = some v) ∨ (aggD td = true ∧ o + i.size ≤ cs.length ∧ v = .agg ((cs.drop o).take i.size)))
def ResL (fr : Fr) (L : HL) : List ResultVar → List V → Prop
  | [], [] => True
  | r :: rs, v :: vs => ResOk P fr L r v ∧ ResL fr L rs vs
  | _, _ => False
def tupV : List V → V
  | [v] => v
  | vs => .tup vs

/-- What a body must come to. -/
def RetQ (rs : List ResultVar) (k : Nat) (v : V) (L1 : HL) (n1 : Nat) : Exit → Fr → HL → Nat → Prop := fun e fr L n =>
  (e = .ret ∨ e = .normal) ∧ ∃ vs π, ResL P fr L rs vs ∧ Ren π v (tupV vs) ∧ (∀ i, i < k → π i = some (.old i)) ∧ (∀ i, n1 ≤ i → π i = none) ∧ RenH π L L1 ∧ Inj π L1
variable {P gid}

/-- What a result variable is read as. -/
def rv (tmps : Array Value) : ResultVar → Sem Value
  | .tmp t => pure (tmps.getD t undef)
  | .cell a t => do loadVar t (← asAddr (tmps.getD a undef))
theorem results_rv (fn : Func) (tmps : Array Value) : results fn tmps = (do let vs ← fn.results.mapM (rv tmps); pure (if h : vs.size = 1 then vs[0] else .tuple vs)) :=
  congrArg (fun g : ResultVar → Sem Value => (do let vs ← fn.results.mapM g; pure (if h : vs.size = 1 then vs[0] else .tuple vs) : Sem Value)) (funext fun r => by cases r <;> rfl)

theorem run_result {N : Nat} {E : Ent} {ρ : Env} {fr : Fr} {L : HL} {n : Nat} {a : Act} {w : World} (h : St P gid N E ρ (fget fr) (lk L) n a w) {r : ResultVar} {v : V} (hr : ResOk P fr L r v) :
    ∃ x, (rv a.tmps r).run P w = .ok x w ∧ Vr ρ v x := by
  cases r with
  | tmp t => simp only [ResOk] at hr; subst hr; exact ⟨_, rfl, h.f.slots t⟩
  | cell ad t =>
    simp only [ResOk] at hr
    obtain ⟨b, o, e, cs, h1, h2, td, i, ht, hi, h3⟩ := hr
    have h5 := h.f.slots ad
    rw [h1] at h5
    simp only [Vr] at h5
    obtain ⟨lc, addr, hl, ha, he⟩ := h5
    obtain ⟨lc', hl', hc⟩ := h.w.own.ok b _ h2
    rw [hl] at hl'; cases hl'
    rcases h3 with ⟨hag, hv⟩ | ⟨hag, hle, rfl⟩
    · rcases hc with ⟨_, _, rfl⟩ | ⟨g, cur, hg, hh, _, _, hV⟩
      · simp at hv
      · rw [ha] at hg; cases hg
        obtain ⟨x, h6, h7⟩ := hV.get hv
        have h8 : cur[o]? = some x := by
          rw [List.getElem?_take] at h6
          split at h6
          · simpa using h6
          · cases h6
        refine ⟨x, ?_, h7⟩
        simp [rv, he, asAddr, loadVar, run_isAgg ht, hag, (own_cell hh o).trans h8]
    · rcases hc with ⟨_, _, rfl⟩ | ⟨g, cur, hg, hh, _, hle', hV⟩
      · have h0 : i.size = 0 := by simp at hle; omega
        refine ⟨.agg #[], ?_, ?_⟩
        · have hr : (loadCells (addr.add o) 0).run P w = .ok #[] w := run_loadN (vs := []) rfl (by simp)
          simp [rv, he, asAddr, loadVar, run_isAgg ht, hag, sizeOf, typeInfo, hi, h0, hr]
        · simp only [Vr]; exact ⟨[], rfl, by simp [VrL]⟩
      · rw [ha] at hg; cases hg
        refine ⟨.agg ((cur.toList.drop o).take i.size).toArray, ?_, ?_⟩
        · have hr : (loadCells ((⟨g, 0, none⟩ : Addr).add o) i.size).run P w = .ok ((cur.toList.drop o).take i.size).toArray w := by
            refine run_loadN (by simp; omega) fun j v hj => ?_
            rw [List.getElem?_take] at hj
            split at hj
            · rw [List.getElem?_drop] at hj
              rw [addr_add_add, own_cell hh]
              simpa using hj
            · cases hj
          simp [rv, he, asAddr, loadVar, run_isAgg ht, hag, sizeOf, typeInfo, hi, hr]
        · have h9 := VrL.take i.size (VrL.drop o hV)
          have e1 : ((cur.toList.take cs.length).drop o).take i.size = (cur.toList.drop o).take i.size := by
            rw [List.drop_take, List.take_take, Nat.min_eq_left (by omega)]
          rw [e1] at h9
          simp only [Vr]
          exact ⟨_, rfl, h9⟩

theorem run_resultL {N : Nat} {E : Ent} {ρ : Env} {fr : Fr} {L : HL} {n : Nat} {a : Act} {w : World} (h : St P gid N E ρ (fget fr) (lk L) n a w) : ∀ {rs : List ResultVar} {vs : List V}, ResL P fr L rs vs →
    ∃ xs : List Value, (rs.mapM (rv a.tmps)).run P w = .ok xs w ∧ VrL ρ vs xs
  | [], [], _ => ⟨[], by simp, by simp [VrL]⟩
  | r :: rs, v :: vs, hr => by
    simp only [ResL] at hr
    obtain ⟨x, h1, h2⟩ := run_result h hr.1
    obtain ⟨xs, h3, h4⟩ := run_resultL h hr.2
    refine ⟨x :: xs, ?_, by simp only [VrL]; exact ⟨h2, h4⟩⟩
    simp only [List.mapM_cons, Sem.run_bind]
    rw [h1]
    simp only [Result.andThen_ok, h3, Sem.run_bind, Sem.run_pure]
  | [], _ :: _, hr => by simp only [ResL] at hr
  | _ :: _, [], hr => by simp only [ResL] at hr

theorem run_results {N : Nat} {E : Ent} {ρ : Env} {fr : Fr} {L : HL} {n : Nat} {a : Act} {w : World} (h : St P gid N E ρ (fget fr) (lk L) n a w) {fn : Func} {vs : List V} (hr : ResL P fr L fn.results.toList vs) :
    ∃ x, (results fn a.tmps).run P w = .ok x w ∧ Vr ρ (tupV vs) x := by
  obtain ⟨xs, h1, h2⟩ := run_resultL h hr
  have hm : (fn.results.mapM (rv a.tmps)).run P w = .ok xs.toArray w := by
    rw [Array.mapM_eq_mapM_toList]
    simp only [← bind_pure_comp, Sem.run_bind, h1, Result.andThen_ok, Sem.run_pure]
  rw [results_rv, Sem.run_bind, hm]
  simp only [Result.andThen_ok, Sem.run_pure]
  match vs, xs, h2 with
  | [], [], _ => exact ⟨_, rfl, by simp only [tupV, Vr]; exact ⟨[], rfl, by simp [VrL]⟩⟩
  | [v], [x], h2 => simp only [VrL] at h2; exact ⟨_, rfl, by simpa [tupV] using h2.1⟩
  | v :: u :: vs, x :: y :: xs, h2 =>
    refine ⟨.tuple (x :: y :: xs).toArray, ?_, by simp only [tupV, Vr]; exact ⟨_, rfl, h2⟩⟩
    rw [dif_neg (by simp)]
  | [], _ :: _, h2 => simp only [VrL] at h2
  | _ :: _, [], h2 => simp only [VrL] at h2
  | [_], _ :: _ :: _, h2 => simp only [VrL] at h2; exact h2.2.elim
  | _ :: _ :: _, [_], h2 => simp only [VrL] at h2; exact h2.2.elim

/-- The frame in which a function begins. -/
def initFr (args : List V) : Fr := args.zipIdx.map fun p => (p.2, p.1)
theorem fget_init : ∀ (args : List V) (j d : Nat), fget ((args.zipIdx j).map fun p => (p.2, p.1)) d = if j ≤ d then (args[d - j]?).getD .any else .any
  | [], j, d => by simp [fget]
  | v :: args, j, d => by
    simp only [List.zipIdx_cons, List.map_cons, fget]
    split
    · rename_i e; subst e; simp
    · rename_i e
      rw [fget_init args (j + 1) d]
      by_cases h : j ≤ d
      · have h1 : j + 1 ≤ d := by omega
        have h2 : d - j = (d - (j + 1)) + 1 := by omega
        rw [if_pos h1, if_pos h, h2]
        simp
      · rw [if_neg (by omega), if_neg h]

theorem FnOK.intro {f : FuncId} {fn : Func} {c : Code} {k n1 : Nat} {args : List V} {L0 L1 : HL} {v : V} (hf : P.funcs[f]? = some fn) (hb : fn.body = some c) (hname : fn.name ≠ "runtime.NumGoroutine") (hle : k ≤ n1)
    (hargs : args.length ≤ fn.ntmps) (h : TL P gid fn.ntmps k c (initFr args) L0 k (RetQ P fn.results.toList k v L1 n1)) : FnOK P gid f k args L0 v L1 n1 := by
  refine ⟨hle, fun xs w => ?_, fun ρ w xs h1 h2 h3 h4 => ?_⟩
  · simp [callFunc, program, Sem.run, hf, hname, hb]
  · refine calls_of_wp hf hb ?_
    have hl := h4.length
    have hst : St P gid fn.ntmps ⟨k, ρ, lk L0, w⟩ ρ (fget (initFr args)) (lk L0) k { tmps := xs.toArray ++ Array.replicate (fn.ntmps - xs.toArray.size) undef, defers := [] } w := by
      refine ⟨⟨h1, fun _ _ => rfl, ⟨rfl, rfl, rfl, Nat.le_refl _, fun _ _ _ => rfl⟩, fun b k' g hb hm hg => .inr ⟨b, k', hb, hm, hg⟩, h3⟩, ⟨fun d => ?_, by simp; omega, rfl⟩, h2, Nat.le_refl _⟩
      unfold initFr
      rw [fget_init args 0 d, if_pos (Nat.zero_le _), Nat.sub_zero]
      cases hd : args[d]? with
      | none => simp [Vr]
      | some c' =>
        obtain ⟨x, hx, hv⟩ := h4.get hd
        have hlt : d < xs.length := (List.getElem?_eq_some_iff.1 hx).1
        have : (xs.toArray ++ Array.replicate (fn.ntmps - xs.toArray.size) undef).getD d undef = x := by
          have hx' := (List.getElem?_eq_some_iff.1 hx).2
          simp [Array.getElem?_append, hlt, hx']
        rw [this]
        exact hv
    refine wp_mono (h _ ρ _ w rfl hst) fun e a' w' ⟨ρ', F', H', n', hs', fr', L', hF, hH, he, vs, π, hres, hren, hk, hn, hRH, hInj⟩ => ?_
    subst hF; subst hH
    obtain ⟨x, hx, hxv⟩ := run_results hs' hres
    have hst2 := hs'.ren (fr2 := []) π hk hn hle trivial hRH hInj
    have hgoal : ∃ x' ρ'', Ending.returned x = .returned x' ∧ WSt P gid ⟨k, ρ, lk L0, w⟩ ρ'' (lk L1) w' ∧ (∀ i, n1 ≤ i → ρ'' i = none) ∧ Vr ρ'' v x' :=
      ⟨x, _, rfl, hst2.w, hst2.fresh, Ren.vr _ _ _ hren hxv⟩
    rcases he with rfl | rfl
    · exact ⟨hs'.f.defers, x, hx, hgoal⟩
    · exact ⟨hs'.f.defers, x, hx, hgoal⟩

/-! ### A call -/
mutual
/-- From the callee's numbers back to the caller's. -/
def Fw (σ : Nat → Option Nat) : V → V → Prop
  | .any, c => c = .any
  | .val x, c => c = .val x
  | .ptr b o, c => ∃ i, σ b = some i ∧ c = .ptr i o
  | .sl b o len, c => ∃ i, σ b = some i ∧ c = .sl i o len
  | .mp b, c => ∃ i, σ b = some i ∧ c = .mp i
  | .fn f cs, c => ∃ cs', c = .fn f cs' ∧ FwL σ cs cs'
  | .agg cs, c => ∃ cs', c = .agg cs' ∧ FwL σ cs cs'
  | .tup cs, c => ∃ cs', c = .tup cs' ∧ FwL σ cs cs'
def FwL (σ : Nat → Option Nat) : List V → List V → Prop
  | [], c => c = []
  | x :: xs, c => ∃ y ys, c = y :: ys ∧ Fw σ x y ∧ FwL σ xs ys
end
def Carry (σ : Nat → Option Nat) (ρ' ρ'' : Env) : Prop := ∀ b i l, σ b = some i → ρ' b = some l → ρ'' i = some l
mutual
theorem Fw.vr {σ : Nat → Option Nat} {ρ' ρ'' : Env} (h : Carry σ ρ' ρ'') : ∀ (c c2 : V) (v : Value), Fw σ c c2 → Vr ρ' c v → Vr ρ'' c2 v
  | .any, c2, v, hf, _ => by simp only [Fw] at hf; subst hf; simp only [Vr]
  | .val x, c2, v, hf, hv => by simp only [Fw] at hf; subst hf; simpa only [Vr] using hv
  | .ptr b o, c2, v, hf, hv => by
    simp only [Fw] at hf
    obtain ⟨i, hi, rfl⟩ := hf
    simp only [Vr] at hv ⊢
    obtain ⟨l, a, h1, h2⟩ := hv
    exact ⟨l, a, h _ _ _ hi h1, h2⟩
  | .sl b o len, c2, v, hf, hv => by
    simp only [Fw] at hf
    obtain ⟨i, hi, rfl⟩ := hf
    simp only [Vr] at hv ⊢
    obtain ⟨l, A, c, h1, h2⟩ := hv
    exact ⟨l, A, c, h _ _ _ hi h1, h2⟩
  | .mp b, c2, v, hf, hv => by
    simp only [Fw] at hf
    obtain ⟨i, hi, rfl⟩ := hf
    simp only [Vr] at hv ⊢
    obtain ⟨l, a, h1, h2⟩ := hv
    exact ⟨l, a, h _ _ _ hi h1, h2⟩
  | .fn f cs, c2, v, hf, hv => by
    simp only [Fw] at hf
    obtain ⟨cs', rfl, hc⟩ := hf
    simp only [Vr] at hv ⊢
    obtain ⟨vs, h1, h2⟩ := hv
    exact ⟨vs, h1, FwL.vr h cs cs' vs hc h2⟩
  | .agg cs, c2, v, hf, hv => by
    simp only [Fw] at hf
    obtain ⟨cs', rfl, hc⟩ := hf
    simp only [Vr] at hv ⊢
    obtain ⟨vs, h1, h2⟩ := hv
    exact ⟨vs, h1, FwL.vr h cs cs' vs hc h2⟩
  | .tup cs, c2, v, hf, hv => by
    simp only [Fw] at hf
    obtain ⟨cs', rfl, hc⟩ := hf
    simp only [Vr] at hv ⊢
    obtain ⟨vs, h1, h2⟩ := hv
    exact ⟨vs, h1, FwL.vr h cs cs' vs hc h2⟩
theorem FwL.vr {σ : Nat → Option Nat} {ρ' ρ'' : Env} (h : Carry σ ρ' ρ'') : ∀ (cs ds : List V) (vs : List Value), FwL σ cs ds → VrL ρ' cs vs → VrL ρ'' ds vs
  | [], ds, [], hf, _ => by simp only [FwL] at hf; subst hf; simp only [VrL]
  | c :: cs, ds, v :: vs, hf, hv => by
    simp only [FwL] at hf
    obtain ⟨d, ds', rfl, h1, h2⟩ := hf
    simp only [VrL] at hv ⊢
    exact ⟨Fw.vr h c d v h1 hv.1, FwL.vr h cs ds' vs h2 hv.2⟩
  | [], _, _ :: _, _, hv => by simp only [VrL] at hv
  | _ :: _, _, [], _, hv => by simp only [VrL] at hv
end
theorem FwL.length {σ : Nat → Option Nat} : ∀ {cs ds : List V}, FwL σ cs ds → cs.length = ds.length
  | [], ds, h => by simp only [FwL] at h; subst h; rfl
  | c :: cs, ds, h => by
    simp only [FwL] at h
    obtain ⟨d, ds', rfl, _, h2⟩ := h
    simp [FwL.length h2]
theorem FwL_vals (σ : Nat → Option Nat) : ∀ (l : List Value), FwL σ (vals l) (vals l)
  | [] => by simp [FwL]
  | x :: l => by
    simp only [vals, List.map_cons, FwL]
    exact ⟨_, _, rfl, by simp [Fw], FwL_vals σ l⟩

def FwB (σ : Nat → Option Nat) : Blk → Blk → Prop
  | .ro l, k => k = .ro l
  | .own e cs, k => ∃ cs', k = .own e cs' ∧ FwL σ cs cs'
  | .mp es, k => k = .mp es
  | .it s p, k => k = .it s p
/-- The blocks that come: each own, each one of the callee's. -/
def FwH (σ : Nat → Option Nat) (L1 : HL) : HL → Prop
  | [] => True
  | (i, k) :: r => k.mine = true ∧ (∃ b k', σ b = some i ∧ lk L1 b = some k' ∧ FwB σ k' k) ∧ FwH σ L1 r
theorem FwH.spec {σ : Nat → Option Nat} {L1 : HL} : ∀ {pr : HL}, FwH σ L1 pr → ∀ {i k}, lk pr i = some k → k.mine = true ∧ ∃ b k', σ b = some i ∧ lk L1 b = some k' ∧ FwB σ k' k
  | [], _, i, k, h => by simp [lk] at h
  | (c, k') :: r, hr, i, k, h => by
    simp only [FwH] at hr
    simp only [lk] at h
    split at h
    · rename_i e; cases h; rw [e]; exact ⟨hr.1, hr.2.1⟩
    · exact FwH.spec hr.2.2 h
theorem FwB.ok {σ : Nat → Option Nat} {ρ' ρ'' : Env} (hc : Carry σ ρ' ρ'') {w : World} {b i : Nat} {k k' : Blk} (hb : σ b = some i) (h : FwB σ k' k) (hk : BlkOk P ρ' w b k') : BlkOk P ρ'' w i k := by
  cases k' with
  | ro l => simp only [FwB] at h; subst h; obtain ⟨lc, h1, h2⟩ := hk; exact ⟨lc, hc _ _ _ hb h1, h2⟩
  | mp es => simp only [FwB] at h; subst h; obtain ⟨lc, g, arr, clock, h1, h2⟩ := hk; exact ⟨lc, g, arr, clock, hc _ _ _ hb h1, h2⟩
  | it s p => simp only [FwB] at h; subst h; obtain ⟨lc, g, h1, h2⟩ := hk; exact ⟨lc, g, hc _ _ _ hb h1, h2⟩
  | own e cs =>
    simp only [FwB] at h
    obtain ⟨cs', rfl, hr⟩ := h
    obtain ⟨lc, h1, h2⟩ := hk
    refine ⟨lc, hc _ _ _ hb h1, ?_⟩
    have hl := hr.length
    rcases h2 with ⟨h3, h4, rfl⟩ | ⟨g, cur, h3, h4, h5, h6, h7⟩
    · exact .inl ⟨h3, h4, List.eq_nil_of_length_eq_zero (by simpa using hl.symm)⟩
    · exact .inr ⟨g, cur, h3, h4, h5, by omega, by rw [← hl]; exact FwL.vr hc _ _ _ hr h7⟩

/-- The caller's numbers for the callee's: of the old ones where they are the very blocks; of the new ones from n on. -/
def sig (l : List Src) (n n1 : Nat) : Nat → Option Nat := fun b =>
  match l[b]? with
  | some (.old i) => some i
  | some _ => none
  | none => if b < n1 then some (n + (b - l.length)) else none

/-- What goes: the own blocks that are handed over. -/
def Gives (π : Nat → Option Src) (cs : HL) : HL → Prop
  | [] => True
  | (b, k) :: r => (k.mine = true → (∃ i, π b = some (.old i) ∧ (lk cs i).isSome = true) ∨ π b = some .nil) ∧ Gives π cs r
theorem Gives.spec {π : Nat → Option Src} {cs : HL} : ∀ {L0 : HL}, Gives π cs L0 → ∀ {b k}, lk L0 b = some k → k.mine = true → (∃ i, π b = some (.old i) ∧ (lk cs i).isSome = true) ∨ π b = some .nil
  | [], _, b, k, h, _ => by simp [lk] at h
  | (c, k') :: r, hr, b, k, h, hm => by
    simp only [Gives] at hr
    simp only [lk] at h
    split at h
    · rename_i e; cases h; rw [e]; exact hr.1 hm
    · exact Gives.spec hr.2 h hm
def allMine : HL → Prop
  | [] => True
  | (_, k) :: r => k.mine = true ∧ allMine r
theorem allMine.spec : ∀ {cs : HL}, allMine cs → ∀ {b k}, lk cs b = some k → k.mine = true
  | [], _, b, k, h => by simp [lk] at h
  | (c, k') :: r, hr, b, k, h => by
    simp only [allMine] at hr
    simp only [lk] at h
    split at h
    · cases h; exact hr.1
    · exact allMine.spec hr.2 h

/-- THE CALL, whatever the operation that makes it. -/
theorem call_core {f : FuncId} {k n1 : Nat} {args : List V} {L0 L1 : HL} {v v2 : V} (hF : FnOK P gid f k args L0 v L1 n1) (l : List Src) (hl : l.length = k) {E : Ent} {ρ : Env} {H : Hp} {n : Nat} {w : World} {rd cs pr : HL}
    (hw : WSt P gid E ρ H w) (hEn : E.k ≤ n) (hg : ∀ g id, gid g = some id → l[id]? = some (.old id)) (hrd : ∀ b k, lk rd b = some k → H b = some k) (hcs : ∀ b k, lk cs b = some k → H b = some k) (hfresh : ∀ i, n ≤ i → i < n + (n1 - k) → ρ i = none)
    (hL0 : RenH (pi l) (rd ++ cs) L0) (hInj : Inj (pi l) L0) (hgives : Gives (pi l) cs L0) (hcm : allMine cs)
    {args2 : List V} (ha : RenL (pi l) args args2) {xs : List Value} (hx : VrL ρ args2 xs) (hv : Fw (sig l n n1) v v2) (hpr : FwH (sig l n n1) L1 pr)
    {K : Value → World → Prop} (hK : ∀ ρ' w' x, Grow n (n + (n1 - k)) ρ ρ' → WSt P gid E ρ' (upd H cs pr) w' → Vr ρ' v2 x → K x w') :
    Calls P f xs.toArray w fun e w' => ∃ x, e = .returned x ∧ K x w' := by
  have hsub : ∀ b k', lk (rd ++ cs) b = some k' → H b = some k' := by
    intro b k' hb
    rw [lk_append] at hb
    cases hr : lk rd b with
    | some k2 => simp [hr] at hb; subst hb; exact hrd _ _ hr
    | none => simp [hr] at hb; exact hcs _ _ hb
  have hownS : Own P ρ (lk (rd ++ cs)) w := ⟨fun b k' hb => hw.own.ok b k' (hsub _ _ hb), fun b b' k1 k2 g hne hb hb' => hw.own.sep b b' k1 k2 g hne (hsub _ _ hb) (hsub _ _ hb')⟩
  have hown := hownS.ren (pi l) hL0 hInj
  have hnone : ∀ i, k ≤ i → renEnv (pi l) ρ i = none := fun i hi => by
    have : pi l i = none := by simp [pi]; omega
    simp [renEnv, this]
  have hglob : ∀ g id, gid g = some id → id < k ∧ ∃ c, renEnv (pi l) ρ id = some ⟨some ⟨g, 0, none⟩, c⟩ := fun g id hid => by
    have h1 := hg g id hid
    obtain ⟨_, c, hc⟩ := hw.glob g id hid
    refine ⟨by have := (List.getElem?_eq_some_iff.1 h1).1; omega, c, ?_⟩
    simp [renEnv, pi, h1, hc]
  refine (hF.runs _ w xs hown hnone hglob (RenL.vr _ _ _ ha hx)).mono fun e w' ⟨x, ρ', he, hw', hn', hxv⟩ => ⟨x, he, ?_⟩
  -- the caller's places behind the call
  let ρ2 : Env := fun i => if n ≤ i ∧ i < n + (n1 - k) then ρ' (k + (i - n)) else ρ i
  have hext : Ext ρ ρ2 := fun b lc hb => by
    show (if _ then _ else _) = _
    rw [if_neg]
    · exact hb
    · rintro ⟨h1, h2⟩; rw [hfresh b h1 h2] at hb; cases hb
  have hgrow : Grow n (n + (n1 - k)) ρ ρ2 := ⟨hext, fun i h1 h2 => by
    by_cases h : n ≤ i ∧ i < n + (n1 - k)
    · exact h
    · exfalso; apply h2; show (if _ then _ else _) = _; rw [if_neg h]; exact h1⟩
  have hcarry : Carry (sig l n n1) ρ' ρ2 := by
    intro b i lc hb hlc
    unfold sig at hb
    cases hlb : l[b]? with
    | some s =>
      rw [hlb] at hb
      cases s with
      | old j =>
        simp at hb; subst hb
        have hbk : b < k := by have := (List.getElem?_eq_some_iff.1 hlb).1; omega
        have h1 := hw'.ext b hbk
        rw [hlc] at h1
        have h2 : renEnv (pi l) ρ b = ρ j := by simp [renEnv, pi, hlb]
        exact hext _ _ (h2.symm.trans h1.symm)
      | view _ _ => simp at hb
      | nil => simp at hb
    | none =>
      rw [hlb] at hb
      have hbk : k ≤ b := by simp at hlb; omega
      simp only [] at hb
      split at hb
      · rename_i hlt
        cases hb
        show (if _ then _ else _) = _
        rw [if_pos ⟨by omega, by omega⟩]
        have : k + (n + (b - l.length) - n) = b := by omega
        rw [this]; exact hlc
      · cases hb
  -- the real blocks that may have turned
  have howns : ∀ g, Ent.owns ⟨k, renEnv (pi l) ρ, lk L0, w⟩ g → gone ρ cs g := by
    rintro g ⟨b, k', hb, hm, hat⟩
    rcases hgives.spec hb hm with ⟨i, hi, hs⟩ | hnil
    case inr =>
      have : at? (renEnv (pi l) ρ) b = none := by simp [at?, renEnv, hnil, nilLoc]
      rw [show at? (renEnv (pi l) ρ) b = some g from hat] at this
      cases this
    obtain ⟨k2, hk2⟩ := Option.isSome_iff_exists.1 hs
    refine ⟨i, k2, hk2, hcm.spec hk2, ?_⟩
    have : at? (renEnv (pi l) ρ) b = at? ρ i := by simp [at?, renEnv, hi]
    rw [← this]; exact hat
  have honly : Only (gone ρ cs) w w' := ⟨hw'.kept.os, hw'.kept.tape, hw'.kept.output, hw'.kept.size, fun g hg hn => hw'.kept.block g hg fun ho => hn (howns g ho)⟩
  have hat2 : ∀ b i, sig l n n1 b = some i → (∃ lc, ρ' b = some lc) → at? ρ2 i = at? ρ' b := by
    rintro b i hb ⟨lc, hlc⟩
    simp [at?, hlc, hcarry b i lc hb hlc]
  have hdef : ∀ b k', lk L1 b = some k' → ∃ lc, ρ' b = some lc := by
    intro b k' hb
    have := hw'.own.ok b k' hb
    cases k' with
    | ro l => exact ⟨_, this.choose_spec.1⟩
    | own e c => exact ⟨_, this.choose_spec.1⟩
    | mp es => obtain ⟨lc, g, arr, clock, h, _⟩ := this; exact ⟨lc, h⟩
    | it s p => obtain ⟨lc, g, h, _⟩ := this; exact ⟨lc, h⟩
  have hmineB : ∀ {k1 k2 : Blk}, FwB (sig l n n1) k1 k2 → k1.mine = k2.mine := by
    intro k1 k2 h
    cases k1 <;> simp only [FwB] at h
    · subst h; rfl
    · obtain ⟨_, rfl, _⟩ := h; rfl
    · subst h; rfl
    · subst h; rfl
  refine hK ρ2 w' x hgrow (hw.step hcs hext ?_ honly ?_ ?_ ?_ ?_ ?_) (Fw.vr hcarry _ _ _ hv hxv)
  · intro b h1 h2
    have := hgrow.2 b h1 h2
    omega
  · intro i k' hi
    obtain ⟨_, b, k2, hb, hk2, hf⟩ := hpr.spec hi
    exact hf.ok hcarry hb (hw'.own.ok b k2 hk2)
  · intro i k' g hi hs hgi
    obtain ⟨hm, b, k2, hb, hk2, hf⟩ := hpr.spec hi
    rw [hat2 b i hb (hdef b k2 hk2)] at hgi
    rcases hw'.mine b k2 g hk2 (hmineB hf ▸ hm) hgi with h1 | h1
    · exact .inr h1
    · exact .inl (howns g h1)
  · intro i i' k1 k2 g hne hi hi' hm hs hgi hgi'
    obtain ⟨hm1, b, k3, hb, hk3, hf⟩ := hpr.spec hi
    obtain ⟨hm2, b', k4, hb', hk4, hf'⟩ := hpr.spec hi'
    rw [hat2 b i hb (hdef b k3 hk3)] at hgi
    rw [hat2 b' i' hb' (hdef b' k4 hk4)] at hgi'
    have hbb : b ≠ b' := fun e => hne (by rw [e, hb'] at hb; exact (Option.some.inj hb).symm)
    refine hw'.own.sep b b' k3 k4 g hbb hk3 hk4 (hmineB hf ▸ hm1) ?_ hgi hgi'
    have : k4.mine = true := hmineB hf' ▸ hm2
    cases k4 <;> simp [Blk.mine, Blk.solid] at this ⊢
  · intro i k' hi; exact (hpr.spec hi).1
  · intro b k' hb; exact hcm.spec hb

theorem ok_call {o : Oper} {F : FF} {n : Nat} {f : FuncId} {k n1 : Nat} {args : List V} {L0 L1 : HL} {v v2 : V} (hF : FnOK P gid f k args L0 v L1 n1) (l : List Src) (hl : l.length = k) {rd cs pr : HL} {xs : List Operand} {ats : Array TypeId}
    (ho : o.op = .call { callee := .value (.func f), args := xs.toArray, argTypes := ats }) (hg : ∀ g id, gid g = some id → l[id]? = some (.old id))
    (hL0 : RenH (pi l) (rd ++ cs) L0) (hInj : Inj (pi l) L0) (hgives : Gives (pi l) cs L0) (hcm : allMine cs) (ha : RenL (pi l) args (xs.map (ev gid F))) (hv : Fw (sig l n n1) v v2) (hpr : FwH (sig l n n1) L1 pr) :
    OpOK P gid o F rd cs pr n (n + (n1 - k)) v2 := by
  refine ⟨Nat.le_add_right _ _, fun E ρ H w a h1 hk h3 hrd hcs hn K Q hK => ?_⟩
  have hx : VrL ρ (xs.map (ev gid F)) (xs.map a.eval) := evalL fun x hx => h3 x (by simp [Op.operands, ho, Call.operands, hx])
  unfold Oper.wp
  have hr : (execOp a.eval o).run P w = .ok (.enter f (xs.map a.eval).toArray) w := by
    simp only [execOp, ho, resolve, Sem.run_bind, Sem.run_pure, Result.andThen_ok]
    simp only [Act.eval, Deferred.ofValue, Sem.run_pure, Result.andThen_ok, invoke, List.map_toArray, Array.append_empty, Array.empty_append, hF.enter]
  rw [hr]
  simp only [Oper.upon]
  refine (call_core hF l hl h1 hk hg hrd hcs hn hL0 hInj hgives hcm ha hx hv hpr (K := fun x w' => K (a.put o.dst x) w') hK).mono fun e w' ⟨x, he, hk'⟩ => ?_
  subst he
  exact hk'

theorem ok_callv {o : Oper} {F : FF} {n : Nat} {f : FuncId} {k n1 : Nat} {args : List V} {L0 L1 : HL} {v v2 : V} (hF : FnOK P gid f k args L0 v L1 n1) (l : List Src) (hl : l.length = k) {rd cs pr : HL} {xs : List Operand} {ats : Array TypeId} {g : Operand} {caps : List V}
    (ho : o.op = .call { callee := .value g, args := xs.toArray, argTypes := ats }) (hgv : ∀ (ρ : Env) (v : Value), Vr ρ (ev gid F g) v → Vr ρ (.fn f caps) v) (hg : ∀ g id, gid g = some id → l[id]? = some (.old id))
    (hL0 : RenH (pi l) (rd ++ cs) L0) (hInj : Inj (pi l) L0) (hgives : Gives (pi l) cs L0) (hcm : allMine cs) (ha : RenL (pi l) args (xs.map (ev gid F) ++ caps)) (hv : Fw (sig l n n1) v v2) (hpr : FwH (sig l n n1) L1 pr) :
    OpOK P gid o F rd cs pr n (n + (n1 - k)) v2 := by
  refine ⟨Nat.le_add_right _ _, fun E ρ H w a h1 hk h3 hrd hcs hn K Q hK => ?_⟩
  have hx : VrL ρ (xs.map (ev gid F)) (xs.map a.eval) := evalL fun x hx => h3 x (by simp [Op.operands, ho, Call.operands, hx])
  have h4 := h3 g (by simp [Op.operands, ho, Call.operands])
  have h4 := hgv _ _ h4
  simp only [Vr] at h4
  obtain ⟨vs, he, hvs⟩ := h4
  unfold Oper.wp
  have hr : (execOp a.eval o).run P w = .ok (.enter f (xs.map a.eval ++ vs).toArray) w := by
    simp only [execOp, ho, resolve, Sem.run_bind, Sem.run_pure, Result.andThen_ok]
    simp only [he, Deferred.ofValue, Sem.run_pure, Result.andThen_ok, invoke, List.map_toArray, List.append_toArray, Array.empty_append, Array.append_empty, List.nil_append, hF.enter]
  rw [hr]
  simp only [Oper.upon]
  refine (call_core hF l hl h1 hk hg hrd hcs hn hL0 hInj hgives hcm ha (hx.append hvs) hv hpr (K := fun x w' => K (a.put o.dst x) w') hK).mono fun e w' ⟨x, he, hk'⟩ => ?_
  subst he
  exact hk'
end
end Go.Abs
