/- Runs as contracts; plain results. -/
import Derived.Test.YtfeokfaccaenhaaDoorB5
set_option linter.unusedVariables false
set_option linter.unusedSimpArgs false
namespace Go.Abs
section
variable {P : Program} {gid : Nat → Option Nat}
mutual
theorem vr_flat {ρ ρ' : Env} : ∀ (v : V) (x : Value), idsV 0 v = true → Vr ρ v x → Vr ρ' v x
  | .val y, x, _, h => by simpa only [Vr] using h
  | .any, x, _, h => by simp only [Vr]
  | .ptr b o, x, h, _ => by simp [idsV] at h
  | .sl b o l, x, h, _ => by simp [idsV] at h
  | .mp b, x, h, _ => by simp [idsV] at h
  | .fn f cs, x, h, hv => by simp only [idsV] at h; simp only [Vr] at hv ⊢; obtain ⟨vs, h1, h2⟩ := hv; exact ⟨vs, h1, vrL_flat cs vs h h2⟩
  | .agg cs, x, h, hv => by simp only [idsV] at h; simp only [Vr] at hv ⊢; obtain ⟨vs, h1, h2⟩ := hv; exact ⟨vs, h1, vrL_flat cs vs h h2⟩
  | .tup cs, x, h, hv => by simp only [idsV] at h; simp only [Vr] at hv ⊢; obtain ⟨vs, h1, h2⟩ := hv; exact ⟨vs, h1, vrL_flat cs vs h h2⟩
theorem vrL_flat {ρ ρ' : Env} : ∀ (cs : List V) (vs : List Value), idsL 0 cs = true → VrL ρ cs vs → VrL ρ' cs vs
  | [], [], _, _ => by simp only [VrL]
  | c :: cs, v :: vs, h, hv => by
    simp only [idsL, Bool.and_eq_true] at h
    simp only [VrL] at hv ⊢
    exact ⟨vr_flat c v h.1 hv.1, vrL_flat cs vs h.2 hv.2⟩
  | [], _ :: _, _, hv => by simp only [VrL] at hv
  | _ :: _, [], _, hv => by simp only [VrL] at hv
end
/-- What comes along with a plain result is let go. -/
theorem FnOK.plain {f k : Nat} {args : List V} {L0 L1 : HL} {v : V} {n1 : Nat} (h : FnOK P gid f k args L0 v L1 n1) (hv : idsV 0 v = true) : FnOK P gid f k args L0 v [] k := by
  refine ⟨Nat.le_refl _, h.enter, fun ρ w xs h1 h2 h3 h4 => (h.runs ρ w xs h1 h2 h3 h4).mono fun e w' ⟨x, ρ', he, hw, hn, hx⟩ => ⟨x, fun i => if i < k then ρ' i else none, he, ?_, fun i hi => if_neg (by omega), vr_flat v x hv hx⟩⟩
  refine ⟨⟨fun b k' hb => by simp [lk] at hb, fun b b' k1 k2 g _ hb => by simp [lk] at hb⟩, fun i hi => ?_, hw.kept, fun b k' g hb => by simp [lk] at hb, fun g id hid => ?_⟩
  · show (if i < k then ρ' i else none) = _
    rw [if_pos hi]; exact hw.ext i hi
  · obtain ⟨h5, c, h6⟩ := hw.glob g id hid
    refine ⟨h5, c, ?_⟩
    show (if id < k then ρ' id else none) = _
    rw [if_pos h5]; exact h6
theorem tab_all {l : List (Nat × C × List Rs × Nat)} (h : (l.all fun p => tabOk P p.1 p.2.1 p.2.2.1 p.2.2.2) = true) (f : Nat) (c : C) (rs : List Rs) (N : Nat) (ht : tabOf l f = some (c, rs, N)) : tabOk P f c rs N = true := by
  unfold tabOf at ht
  cases hf : l.find? (fun p => p.1 == f) with
  | none => simp [hf] at ht
  | some p =>
    simp [hf] at ht
    have h1 := List.find?_some hf
    have h2 := List.all_eq_true.1 h p (List.mem_of_find?_eq_some hf)
    simp at h1
    rw [ht] at h2
    rw [← h1]
    exact h2
/-- A run that comes to true. -/
theorem run_true {l : List (Nat × C × List Rs × Nat)} (h : (l.all fun p => tabOk P p.1 p.2.1 p.2.2.1 p.2.2.2) = true) {m f : Nat} {L0 : HL} (hr : isT (exec gidD 2 [0] (tabOf l) m f [] L0 2) = true) : FnOK P gidD f 2 [] L0 (.val (.bool true)) (hl []) 2 := by
  unfold isT at hr
  split at hr
  · rename_i L1 n1 he
    exact ((exec_ok gidD_lt (tab_all h) m f [] L0 2 _ L1 n1 he).1).plain rfl
  · cases hr
end
end Go.Abs
