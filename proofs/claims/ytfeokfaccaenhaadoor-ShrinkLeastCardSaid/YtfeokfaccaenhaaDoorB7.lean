/- Regions whose operations change nothing. -/
import Derived.Test.YtfeokfaccaenhaaDoorB5
set_option linter.unusedVariables false
set_option linter.unusedSimpArgs false
namespace Go.Abs
def okS : V → Bool
  | .val (.int _ _) => true
  | .val (.bool _) => true
  | .val (.string _) => true
  | .val (.slice none 0 0) => true
  | .val (.pointer none) => true
  | .val (.map none) => true
  | .val .nilFunc => true
  | .val .nilIface => true
  | .ptr _ _ => true
  | .sl _ _ _ => true
  | .mp _ => true
  | _ => false
theorem vSame_refl {v : V} (h : okS v = true) : vSame v v = true := by
  unfold okS at h
  split at h <;> first | (simp [vSame, valEq]; done) | (cases h; done)
theorem vsSame_refl : ∀ {cs : List V}, cs.all okS = true → vsSame cs cs = true
  | [], _ => rfl
  | v :: cs, h => by
    simp only [List.all_cons, Bool.and_eq_true] at h
    simp [vsSame, vSame_refl h.1, vsSame_refl h.2]
theorem blk_refl {t : TypeId} {cs : List V} (h : cs.all okS = true) : blkSame (.own t cs) (.own t cs) = true := by simp [blkSame, vsSame_refl h]
theorem chg_same {rd : HL} {b : Nat} {B : Blk} (h : blkSame B B = true) : chgK (rd, [(b, B)], [(b, B)]) = [] := by
  simp [chgK, keysOf, lk, h]
theorem chg_same2 {rd : HL} {b c : Nat} {B D : Blk} (hne : b ≠ c) (h : blkSame B B = true) (h2 : blkSame D D = true) : chgK (rd, [(b, B), (c, D)], [(b, B), (c, D)]) = [] := by
  have hne' : ¬ c = b := fun e => hne e.symm
  simp [chgK, keysOf, lk, h, h2, hne, hne']
theorem disj_nil (l : List Nat) : disj [] l = true := rfl
theorem apart_calm : ∀ (nn : List (List Nat)) (acc : Keys), acc.length ≤ nn.length → (∀ x ∈ acc, chgK x = []) → apartAll nn acc = true
  | [], [], _, _ => rfl
  | _ :: _, [], _, _ => rfl
  | [], k :: ks, h, _ => by simp at h
  | n :: nn, k :: ks, hl, h => by
    simp only [apartAll, Bool.and_eq_true, List.all_eq_true]
    refine ⟨fun j _ => ?_, apart_calm nn ks (by simpa using hl) fun x hx => h x (List.mem_cons_of_mem _ hx)⟩
    have h1 := h k (List.mem_cons_self ..)
    have h2 : chgK ((ks[ks.length - 1 - j]?).getD ([], [], [])) = [] := by
      cases hx : ks[ks.length - 1 - j]? with
      | none => rfl
      | some x => exact h x (List.mem_cons_of_mem _ (List.mem_of_getElem? hx))
    simp [apartK, h1, h2, disj_nil]
end Go.Abs
