/- Tools for walks: heaps whose rows are told as lists, renamings reckoned, calls, returns, loops by a measure. -/
import Derived.Test.YtfeokfaccaenhaaDoorB4
import Derived.KernelRfl
set_option linter.unusedVariables false
set_option linter.unusedSimpArgs false
namespace Go.Abs

/-- A block, its cells told in one of several ways: plain values that are only read; a row of plain values; cells one by one; a map; an iterator. -/
inductive FB where
  | ro (l : List Value)
  | row (e : TypeId) (l : List Value)
  | cel (e : TypeId) (cs : List V)
  | mp (es : List (Value × Value))
  | it (s : ByteArray) (p : Nat)
def FB.blk : FB → Blk
  | .ro l => .ro l
  | .row e l => .own e (vals l)
  | .cel e cs => .own e cs
  | .mp es => .mp es
  | .it s p => .it s p
abbrev FH := List (Nat × FB)
def hl : FH → HL
  | [] => []
  | (b, k) :: r => (b, k.blk) :: hl r
def FB.isRo : FB → Bool
  | .ro _ => true
  | _ => false

mutual
/-- What a value told of new numbers is of the old ones. -/
def rnV (l : List Src) : V → Option V
  | .val x => some (.val x)
  | .ptr b o => match l[b]? with
    | some (.old i) => some (.ptr i o)
    | some (.view i p) => some (.ptr i (p + o))
    | _ => none
  | .sl b o len => match l[b]? with
    | some (.old i) => some (.sl i o len)
    | some (.view i p) => some (.sl i (p + o) len)
    | some .nil => match o, len with
      | 0, 0 => some (.val (.slice none 0 0))
      | _, _ => none
    | none => none
  | .mp b => match l[b]? with
    | some (.old i) => some (.mp i)
    | _ => none
  | .fn f cs => match rnL l cs with
    | some ds => some (.fn f ds)
    | none => none
  | .agg cs => match rnL l cs with
    | some ds => some (.agg ds)
    | none => none
  | .tup cs => match rnL l cs with
    | some ds => some (.tup ds)
    | none => none
  | .any => some .any
def rnL (l : List Src) : List V → Option (List V)
  | [] => some []
  | c :: cs => match rnV l c with
    | some d => match rnL l cs with
      | some ds => some (d :: ds)
      | none => none
    | none => none
end
mutual
theorem rnV_ok {l : List Src} : ∀ {v c : V}, rnV l v = some c → Ren (pi l) v c
  | .val x, c, h => by simp [rnV] at h; subst h; simp [Ren]
  | .any, c, h => by simp [Ren]
  | .ptr b o, c, h => by
    simp only [rnV] at h
    split at h
    · rename_i i hb; cases h; simp only [Ren]; exact .inl ⟨i, hb, rfl⟩
    · rename_i i p hb; cases h; simp only [Ren]; exact .inr ⟨i, p, hb, rfl⟩
    · cases h
  | .sl b o len, c, h => by
    simp only [rnV] at h
    split at h
    · rename_i i hb; cases h; simp only [Ren]; exact .inl ⟨i, hb, rfl⟩
    · rename_i i p hb; cases h; simp only [Ren]; exact .inr (.inl ⟨i, p, hb, rfl⟩)
    · rename_i hb
      split at h
      · cases h; simp only [Ren]; exact .inr (.inr ⟨hb, by trivial⟩)
      · cases h
    · cases h
  | .mp b, c, h => by
    simp only [rnV] at h
    split at h
    · rename_i i hb; cases h; simp only [Ren]; exact ⟨i, hb, rfl⟩
    · cases h
  | .fn f cs, c, h => by
    simp only [rnV] at h
    split at h
    · rename_i ds hd; cases h; simp only [Ren]; exact ⟨_, rfl, rnL_ok hd⟩
    · cases h
  | .agg cs, c, h => by
    simp only [rnV] at h
    split at h
    · rename_i ds hd; cases h; simp only [Ren]; exact ⟨_, rfl, rnL_ok hd⟩
    · cases h
  | .tup cs, c, h => by
    simp only [rnV] at h
    split at h
    · rename_i ds hd; cases h; simp only [Ren]; exact ⟨_, rfl, rnL_ok hd⟩
    · cases h
theorem rnL_ok {l : List Src} : ∀ {v c : List V}, rnL l v = some c → RenL (pi l) v c
  | [], c, h => by simp [rnL] at h; subst h; simp [RenL]
  | x :: xs, c, h => by
    simp only [rnL] at h
    split at h
    · rename_i d hd
      split at h
      · rename_i ds hds; cases h; simp only [RenL]; exact ⟨rnV_ok hd, rnL_ok hds⟩
      · cases h
    · cases h
end
mutual
/-- What a value of the callee's numbers is of the caller's. -/
def fwV (σ : Nat → Option Nat) : V → Option V
  | .val x => some (.val x)
  | .any => some .any
  | .ptr b o => match σ b with
    | some i => some (.ptr i o)
    | none => none
  | .sl b o len => match σ b with
    | some i => some (.sl i o len)
    | none => none
  | .mp b => match σ b with
    | some i => some (.mp i)
    | none => none
  | .fn f cs => match fwL' σ cs with
    | some ds => some (.fn f ds)
    | none => none
  | .agg cs => match fwL' σ cs with
    | some ds => some (.agg ds)
    | none => none
  | .tup cs => match fwL' σ cs with
    | some ds => some (.tup ds)
    | none => none
def fwL' (σ : Nat → Option Nat) : List V → Option (List V)
  | [] => some []
  | c :: cs => match fwV σ c with
    | some d => match fwL' σ cs with
      | some ds => some (d :: ds)
      | none => none
    | none => none
end
mutual
theorem fwV_ok {σ : Nat → Option Nat} : ∀ {v c : V}, fwV σ v = some c → Fw σ v c
  | .val x, c, h => by simp [fwV] at h; subst h; simp [Fw]
  | .any, c, h => by simp [fwV] at h; subst h; simp [Fw]
  | .ptr b o, c, h => by
    simp only [fwV] at h
    split at h
    · rename_i i hb; cases h; simp only [Fw]; exact ⟨i, hb, rfl⟩
    · cases h
  | .sl b o len, c, h => by
    simp only [fwV] at h
    split at h
    · rename_i i hb; cases h; simp only [Fw]; exact ⟨i, hb, rfl⟩
    · cases h
  | .mp b, c, h => by
    simp only [fwV] at h
    split at h
    · rename_i i hb; cases h; simp only [Fw]; exact ⟨i, hb, rfl⟩
    · cases h
  | .fn f cs, c, h => by
    simp only [fwV] at h
    split at h
    · rename_i ds hd; cases h; simp only [Fw]; exact ⟨_, rfl, fwL_ok hd⟩
    · cases h
  | .agg cs, c, h => by
    simp only [fwV] at h
    split at h
    · rename_i ds hd; cases h; simp only [Fw]; exact ⟨_, rfl, fwL_ok hd⟩
    · cases h
  | .tup cs, c, h => by
    simp only [fwV] at h
    split at h
    · rename_i ds hd; cases h; simp only [Fw]; exact ⟨_, rfl, fwL_ok hd⟩
    · cases h
theorem fwL_ok {σ : Nat → Option Nat} : ∀ {v c : List V}, fwL' σ v = some c → FwL σ v c
  | [], c, h => by simp [fwL'] at h; subst h; simp [FwL]
  | x :: xs, c, h => by
    simp only [fwL'] at h
    split at h
    · rename_i d hd
      split at h
      · rename_i ds hds; cases h; simp only [FwL]; exact ⟨_, _, rfl, fwV_ok hd, fwL_ok hds⟩
      · cases h
    · cases h
end

/-! ### Heaps against heaps -/
/-- A block of the new heap against the old one. -/
def eqB (l : List Src) (L : HL) (b : Nat) : FB → Prop
  | .ro c => match l[b]? with
    | some (.old i) => lk L i = some (.ro c)
    | some (.view i o) => ∃ k, lk L i = some k ∧ o + c.length ≤ k.cellsV.length ∧ k.sub o c.length = vals c
    | some .nil => c = []
    | none => False
  | .row e c => match l[b]? with
    | some (.old i) => ∃ cs, lk L i = some (.own e cs) ∧ cs = vals c
    | some .nil => c = []
    | _ => False
  | .cel e cs => match l[b]? with
    | some (.old i) => ∃ ds, lk L i = some (.own e ds) ∧ rnL l cs = some ds
    | _ => False
  | .mp es => match l[b]? with
    | some (.old i) => lk L i = some (.mp es)
    | _ => False
  | .it s p => match l[b]? with
    | some (.old i) => lk L i = some (.it s p)
    | _ => False
def eqH (l : List Src) (L : HL) : FH → Prop
  | [] => True
  | (b, k) :: r => eqB l L b k ∧ eqH l L r
theorem eqB_ren {l : List Src} {L : HL} {b : Nat} {k : FB} (h : eqB l L b k) : RenE (pi l) L b k.blk := by
  cases k with
  | ro c =>
    simp only [eqB] at h
    split at h
    · rename_i i hb; exact .inl ⟨i, _, hb, h, rfl⟩
    · rename_i i o hb; obtain ⟨k, h1, h2, h3⟩ := h; exact .inr (.inl ⟨i, o, c, k, hb, h1, rfl, h2, h3⟩)
    · rename_i hb; subst h; exact .inr (.inr ⟨hb, .inr rfl⟩)
    · exact h.elim
  | row e c =>
    simp only [eqB] at h
    split at h
    · rename_i i hb; obtain ⟨cs, h1, rfl⟩ := h; exact .inl ⟨i, _, hb, h1, _, rfl, RenL_vals _ c⟩
    · rename_i hb; subst h; exact .inr (.inr ⟨hb, .inl ⟨e, rfl⟩⟩)
    · exact h.elim
  | cel e cs =>
    simp only [eqB] at h
    split at h
    · rename_i i hb; obtain ⟨ds, h1, h2⟩ := h; exact .inl ⟨i, _, hb, h1, _, rfl, rnL_ok h2⟩
    · exact h.elim
  | mp es =>
    simp only [eqB] at h
    split at h
    · rename_i i hb; exact .inl ⟨i, _, hb, h, rfl⟩
    · exact h.elim
  | it s p =>
    simp only [eqB] at h
    split at h
    · rename_i i hb; exact .inl ⟨i, _, hb, h, rfl⟩
    · exact h.elim
theorem eqH_ren {l : List Src} {L : HL} : ∀ {F : FH}, eqH l L F → RenH (pi l) L (hl F)
  | [], _ => trivial
  | (b, k) :: r, h => ⟨eqB_ren h.1, eqH_ren h.2⟩
theorem lk_hl : ∀ {F : FH} {b : Nat} {k : Blk}, lk (hl F) b = some k → ∃ x, (b, x) ∈ F ∧ k = x.blk
  | [], b, k, h => by simp [hl, lk] at h
  | (c, x) :: r, b, k, h => by
    simp only [hl, lk] at h
    split at h
    · rename_i e; cases h; subst e; exact ⟨x, List.mem_cons_self .., rfl⟩
    · obtain ⟨y, h1, h2⟩ := lk_hl h; exact ⟨y, List.mem_cons_of_mem _ h1, h2⟩
/-- What old block a new one is. -/
def oldOf (l : List Src) (b : Nat) : Option Nat := match l[b]? with
  | some (.old i) => some i
  | _ => none
def anyOf (l : List Src) (b : Nat) : Option Nat := match l[b]? with
  | some (.old i) => some i
  | some (.view i _) => some i
  | _ => none
/-- A block of one's own is no other's. -/
def injB (l : List Src) (F : FH) : Bool := F.all fun p => p.2.isRo || match oldOf l p.1 with
  | some i => F.all fun q => q.1 == p.1 || match anyOf l q.1 with
    | some j => !(i == j)
    | none => true
  | none => true
theorem blk_mine {k : FB} : k.blk.mine = !k.isRo := by cases k <;> rfl
theorem injB_ok {l : List Src} {F : FH} (h : injB l F = true) : Inj (pi l) (hl F) := by
  have key : ∀ b b' k k' i, lk (hl F) b = some k → lk (hl F) b' = some k' → pi l b = some (.old i) → k.mine = true → b' ≠ b → anyOf l b' ≠ some i := by
    intro b b' k k' i h1 h2 h3 h4 hne
    obtain ⟨x, hx, rfl⟩ := lk_hl h1
    obtain ⟨y, hy, rfl⟩ := lk_hl h2
    have h5 := List.all_eq_true.1 h _ hx
    rw [blk_mine] at h4
    simp only [Bool.not_eq_true'] at h4
    have h6 : oldOf l b = some i := by unfold pi at h3; simp [oldOf, h3]
    simp only [h4, Bool.false_or, h6] at h5
    have h7 := List.all_eq_true.1 h5 _ hy
    intro hc
    simp [hne, hc] at h7
  refine ⟨fun b b' k k' i h1 h2 h3 h4 h5 => ?_, fun b b' k k' i o h1 h2 h3 h4 h5 => ?_⟩
  · by_cases e : b' = b
    · exact e.symm
    · have := key b b' k k' i h1 h2 h3 h5 e
      unfold pi at h4
      simp [anyOf, h4] at this
  · have e : b' ≠ b := by rintro rfl; rw [h4] at h5; cases h5
    have := key b b' k k' i h1 h2 h4 h3 e
    unfold pi at h5
    simp [anyOf, h5] at this

/-- The caller's blocks that are only looked at. -/
def rdH (l : List Src) (L : HL) : FH → HL
  | [] => []
  | (b, k) :: r => match k.isRo with
    | true => match anyOf l b with
      | some i => match lk L i with
        | some x => (i, x) :: rdH l L r
        | none => rdH l L r
      | none => rdH l L r
    | false => rdH l L r
/-- The caller's blocks that are handed over. -/
def csH (l : List Src) (L : HL) : FH → HL
  | [] => []
  | (b, k) :: r => match k.isRo with
    | true => csH l L r
    | false => match oldOf l b with
      | some i => match lk L i with
        | some x => (i, x) :: csH l L r
        | none => csH l L r
      | none => csH l L r
theorem rdH_mem {l : List Src} {L : HL} : ∀ {F : FH} {i : Nat} {x : Blk}, (i, x) ∈ rdH l L F → lk L i = some x
  | [], i, x, h => by simp [rdH] at h
  | (b, k) :: r, i, x, h => by
    simp only [rdH] at h
    split at h
    · split at h
      · split at h
        · rename_i y hy
          rcases List.mem_cons.1 h with e | h
          · cases e; exact hy
          · exact rdH_mem h
        · exact rdH_mem h
      · exact rdH_mem h
    · exact rdH_mem h
theorem csH_mem {l : List Src} {L : HL} : ∀ {F : FH} {i : Nat} {x : Blk}, (i, x) ∈ csH l L F → lk L i = some x
  | [], i, x, h => by simp [csH] at h
  | (b, k) :: r, i, x, h => by
    simp only [csH] at h
    split at h
    · exact csH_mem h
    · split at h
      · split at h
        · rename_i y hy
          rcases List.mem_cons.1 h with e | h
          · cases e; exact hy
          · exact csH_mem h
        · exact csH_mem h
      · exact csH_mem h
theorem rdH_in {l : List Src} {L : HL} : ∀ {F : FH} {b i : Nat} {k : FB} {x : Blk}, (b, k) ∈ F → k.isRo = true → anyOf l b = some i → lk L i = some x → (i, x) ∈ rdH l L F
  | (c, k') :: r, b, i, k, x, h, hk, hb, hx => by
    simp only [rdH]
    rcases List.mem_cons.1 h with e | h
    · cases e; simp only [hk, hb, hx]; exact List.mem_cons_self ..
    · have ih := rdH_in h hk hb hx
      split
      · split
        · split
          · exact List.mem_cons_of_mem _ ih
          · exact ih
        · exact ih
      · exact ih
theorem csH_in {l : List Src} {L : HL} : ∀ {F : FH} {b i : Nat} {k : FB} {x : Blk}, (b, k) ∈ F → k.isRo = false → oldOf l b = some i → lk L i = some x → (i, x) ∈ csH l L F
  | (c, k') :: r, b, i, k, x, h, hk, hb, hx => by
    simp only [csH]
    rcases List.mem_cons.1 h with e | h
    · cases e; simp only [hk, hb, hx]; exact List.mem_cons_self ..
    · have ih := csH_in h hk hb hx
      split
      · exact ih
      · split
        · split
          · exact List.mem_cons_of_mem _ ih
          · exact ih
        · exact ih
theorem lk_of_mem {L M : HL} (hs : ∀ i x, (i, x) ∈ M → lk L i = some x) : ∀ {N : HL}, (∀ i x, (i, x) ∈ N → (i, x) ∈ M) → ∀ {i : Nat} {x : Blk}, (i, x) ∈ N → lk N i = some x
  | [], _, i, x, h => by cases h
  | (c, y) :: r, hN, i, x, h => by
    simp only [lk]
    split
    · rename_i e
      subst e
      have h1 := hs _ _ (hN _ _ (List.mem_cons_self ..))
      have h2 := hs _ _ (hN _ _ h)
      rw [h1] at h2; exact h2
    · rename_i e
      rcases List.mem_cons.1 h with e' | h
      · cases e'; exact absurd rfl e
      · exact lk_of_mem hs (fun i x hm => hN i x (List.mem_cons_of_mem _ hm)) h
theorem eqB_has {l : List Src} {L : HL} {b : Nat} {k : FB} (h : eqB l L b k) : (k.isRo = true ∧ (∃ i x, anyOf l b = some i ∧ lk L i = some x)) ∨ (k.isRo = false ∧ ∃ i x, oldOf l b = some i ∧ lk L i = some x ∧ x.mine = true) ∨ l[b]? = some .nil := by
  cases k with
  | ro c =>
    simp only [eqB] at h
    split at h
    · rename_i i hb; exact .inl ⟨rfl, i, _, by simp [anyOf, hb], h⟩
    · rename_i i o hb; obtain ⟨k, h1, h2, h3⟩ := h; exact .inl ⟨rfl, i, _, by simp [anyOf, hb], h1⟩
    · rename_i hb; exact .inr (.inr hb)
    · exact h.elim
  | row e c =>
    simp only [eqB] at h
    split at h
    · rename_i i hb; obtain ⟨cs, h1, rfl⟩ := h; exact .inr (.inl ⟨rfl, i, _, by simp [oldOf, hb], h1, rfl⟩)
    · rename_i hb; exact .inr (.inr hb)
    · exact h.elim
  | cel e cs =>
    simp only [eqB] at h
    split at h
    · rename_i i hb; obtain ⟨ds, h1, h2⟩ := h; exact .inr (.inl ⟨rfl, i, _, by simp [oldOf, hb], h1, rfl⟩)
    · exact h.elim
  | mp es =>
    simp only [eqB] at h
    split at h
    · rename_i i hb; exact .inr (.inl ⟨rfl, i, _, by simp [oldOf, hb], h, rfl⟩)
    · exact h.elim
  | it s p =>
    simp only [eqB] at h
    split at h
    · rename_i i hb; exact .inr (.inl ⟨rfl, i, _, by simp [oldOf, hb], h, rfl⟩)
    · exact h.elim
theorem eqB_sub {l : List Src} {L M : HL} {b : Nat} {k : FB} (h : eqB l L b k) (hM : ∀ i, anyOf l b = some i → lk M i = lk L i) : eqB l M b k := by
  cases k <;> simp only [eqB] at h ⊢ <;> (split at h <;> (try rename_i hb) <;> (try simp only [anyOf, hb, Option.some.injEq, forall_eq'] at hM) <;> first | (rw [hM]; exact h) | exact h)
theorem eqH_mem {l : List Src} {L : HL} : ∀ {F : FH}, eqH l L F → ∀ {b k}, (b, k) ∈ F → eqB l L b k
  | (c, x) :: r, h, b, k, hm => by
    rcases List.mem_cons.1 hm with e | hm
    · cases e; exact h.1
    · exact eqH_mem h.2 hm
theorem eqH_of {l : List Src} {L : HL} : ∀ {F : FH}, (∀ b k, (b, k) ∈ F → eqB l L b k) → eqH l L F
  | [], _ => trivial
  | (c, x) :: r, h => ⟨h _ _ (List.mem_cons_self ..), eqH_of fun b k hm => h b k (List.mem_cons_of_mem _ hm)⟩
theorem eqH_rdcs {l : List Src} {L : HL} {F : FH} (h : eqH l L F) : eqH l (rdH l L F ++ csH l L F) F := by
  refine eqH_of fun b k hm => ?_
  have hb := eqH_mem h hm
  refine eqB_sub hb fun i hi => ?_
  have hs : ∀ i x, (i, x) ∈ rdH l L F ++ csH l L F → lk L i = some x := fun i x hx => by
    rcases List.mem_append.1 hx with h | h
    · exact rdH_mem h
    · exact csH_mem h
  rcases eqB_has hb with ⟨hk, j, x, h1, h2⟩ | ⟨hk, j, x, h1, h2, _⟩ | hn
  · rw [hi] at h1; cases h1
    rw [h2]
    exact lk_of_mem hs (fun _ _ h => h) (List.mem_append.2 (.inl (rdH_in hm hk hi h2)))
  · have : anyOf l b = some j := by
      unfold oldOf at h1
      split at h1
      · rename_i i' hb'; cases h1; simp [anyOf, hb']
      · cases h1
    rw [hi] at this; cases this
    rw [h2]
    exact lk_of_mem hs (fun _ _ h => h) (List.mem_append.2 (.inr (csH_in hm hk h1 h2)))
  · simp [anyOf, hn] at hi

/-- No own block is handed over as nil. -/
def givB (l : List Src) (F : FH) : Bool := F.all fun p => p.2.isRo || match l[p.1]? with
  | some (.old _) => true
  | some .nil => true
  | _ => false
theorem gives_hl {l : List Src} {cs : HL} : ∀ {F : FH}, (∀ b k, (b, k) ∈ F → k.isRo = false → (∃ i, pi l b = some (.old i) ∧ (lk cs i).isSome = true) ∨ pi l b = some .nil) → Gives (pi l) cs (hl F)
  | [], _ => trivial
  | (b, k) :: r, h => ⟨fun hm => h b k (List.mem_cons_self ..) (by rw [blk_mine] at hm; simpa using hm), gives_hl fun b k hm => h b k (List.mem_cons_of_mem _ hm)⟩
theorem allMine_of : ∀ {M : HL}, (∀ i x, (i, x) ∈ M → x.mine = true) → allMine M
  | [], _ => trivial
  | (i, x) :: r, h => ⟨h i x (List.mem_cons_self ..), allMine_of fun i x hm => h i x (List.mem_cons_of_mem _ hm)⟩

/-- What comes of a call: its own blocks, by the caller's numbers. -/
def prH (σ : Nat → Option Nat) : FH → Option HL
  | [] => some []
  | (b, k) :: r => match prH σ r with
    | none => none
    | some m => match k with
      | .ro _ => some m
      | .row e c => match σ b with
        | some i => some ((i, .own e (vals c)) :: m)
        | none => none
      | .cel e cs => match σ b with
        | some i => match fwL' σ cs with
          | some ds => some ((i, .own e ds) :: m)
          | none => none
        | none => none
      | .mp es => match σ b with
        | some i => some ((i, .mp es) :: m)
        | none => none
      | .it s p => match σ b with
        | some i => some ((i, .it s p) :: m)
        | none => none
def keysB : FH → Bool
  | [] => true
  | (b, _) :: r => (r.all fun q => !(q.1 == b)) && keysB r
theorem keysB_lk : ∀ {F : FH}, keysB F = true → ∀ {b k}, (b, k) ∈ F → lk (hl F) b = some k.blk
  | (c, x) :: r, h, b, k, hm => by
    simp only [keysB, Bool.and_eq_true] at h
    simp only [hl, lk]
    rcases List.mem_cons.1 hm with e | hm
    · cases e; simp
    · have := List.all_eq_true.1 h.1 _ hm
      have hne : b ≠ c := by intro e; subst e; simp at this
      rw [if_neg hne]
      exact keysB_lk h.2 hm
theorem prH_ok {σ : Nat → Option Nat} {L1 : HL} : ∀ {F : FH} {pr : HL}, prH σ F = some pr → (∀ b k, (b, k) ∈ F → lk L1 b = some k.blk) → FwH σ L1 pr
  | [], pr, h, _ => by simp [prH] at h; subst h; trivial
  | (b, k) :: r, pr, h, hk => by
    simp only [prH] at h
    have h0 := hk b k (List.mem_cons_self ..)
    split at h
    · cases h
    · rename_i m hm
      have ih := prH_ok hm fun b k hm => hk b k (List.mem_cons_of_mem _ hm)
      split at h
      · cases h; exact ih
      · rename_i e c
        split at h
        · rename_i i hi; cases h; exact ⟨rfl, ⟨b, _, hi, h0, _, rfl, FwL_vals σ c⟩, ih⟩
        · cases h
      · split at h
        · rename_i i hi
          split at h
          · rename_i ds hd; cases h; exact ⟨rfl, ⟨b, _, hi, h0, _, rfl, fwL_ok hd⟩, ih⟩
          · cases h
        · cases h
      · split at h
        · rename_i i hi; cases h; exact ⟨rfl, ⟨b, _, hi, h0, rfl⟩, ih⟩
        · cases h
      · split at h
        · rename_i i hi; cases h; exact ⟨rfl, ⟨b, _, hi, h0, rfl⟩, ih⟩
        · cases h

section
variable {P : Program} {gid : Nat → Option Nat} {N kk : Nat}
def gidB (l : List Src) : Bool := match l with
  | .old 0 :: .old 1 :: _ => true
  | _ => false
theorem gidB_ok {l : List Src} (h : gidB l = true) (g id : Nat) (hid : gidD g = some id) : l[id]? = some (.old id) := by
  have := gidD_lt g id hid
  unfold gidB at h
  split at h
  · match id, this with
    | 0, _ => rfl
    | 1, _ => rfl
  · cases h

/-- A CALL, by a contract; l: what each of the callee's numbers is of the caller's. -/
theorem callX {f : FuncId} {k0 n1 : Nat} {args0 args : List V} {F0 F1 : FH} {v v2 : V} {pr : HL} (h : FnOK P gidD f k0 args0 (hl F0) v (hl F1) n1) (l : List Src) {L : HL} {n : Nat} {k : V → HL → HL → HL → Nat → Prop}
    (ha : rnL l args0 = some args) (hl1 : (decide (l.length = k0) && (gidB l && (injB l F0 && (givB l F0 && keysB F1)))) = true) (hv : fwV (sig l n n1) v = some v2) (hp : prH (sig l n n1) F1 = some pr) (he : eqH l L F0)
    (hk : k v2 (rdH l L F0) (csH l L F0) pr (n + (n1 - k0))) : CallS P gidD f args L n k := by
  simp only [Bool.and_eq_true, decide_eq_true_eq] at hl1
  obtain ⟨h1, h2, h3, h4, h5⟩ := hl1
  have hs : ∀ i x, (i, x) ∈ csH l L F0 → lk L i = some x := fun i x hx => csH_mem hx
  have hr : ∀ i x, (i, x) ∈ rdH l L F0 → lk L i = some x := fun i x hx => rdH_mem hx
  have hmine : ∀ {F : FH}, (∀ b k, (b, k) ∈ F → eqB l L b k) → ∀ i x, (i, x) ∈ csH l L F → x.mine = true := by
    intro F
    induction F with
    | nil => intro _ i x hx; simp [csH] at hx
    | cons p r ih =>
      obtain ⟨b, k⟩ := p
      intro hF i x hx
      have ih' := ih fun b k hm => hF b k (List.mem_cons_of_mem _ hm)
      simp only [csH] at hx
      split at hx
      · exact ih' i x hx
      · rename_i hk
        split at hx
        · rename_i j hj
          split at hx
          · rename_i y hy
            rcases List.mem_cons.1 hx with e | hx
            · cases e
              rcases eqB_has (hF b k (List.mem_cons_self ..)) with ⟨hk', _⟩ | ⟨_, j', x', h1, h2, h3⟩ | hn
              · rw [hk] at hk'; cases hk'
              · rw [hj] at h1; cases h1; rw [hy] at h2; cases h2; exact h3
              · simp [oldOf, hn] at hj
            · exact ih' i x hx
          · exact ih' i x hx
        · exact ih' i x hx
  refine ⟨k0, n1, args0, hl F0, hl F1, v, v2, l, rdH l L F0, csH l L F0, pr, h, h1, gidB_ok h2, eqH_ren (eqH_rdcs he), injB_ok h3, ?_, ?_, rnL_ok ha, fwV_ok hv, prH_ok hp (fun b k hm => keysB_lk h5 hm), ?_, ?_, hk⟩
  · refine gives_hl fun b k hm hro => ?_
    have h6 := List.all_eq_true.1 h4 _ hm
    simp only [hro, Bool.false_or] at h6
    split at h6
    · rename_i i hb
      refine .inl ⟨i, hb, ?_⟩
      rcases eqB_has (eqH_mem he hm) with ⟨hk', _⟩ | ⟨_, j', x', h7, h8, h9⟩ | hn
      · rw [hro] at hk'; cases hk'
      · have : j' = i := by simp [oldOf, hb] at h7; exact h7.symm
        subst this
        rw [lk_of_mem hs (fun _ _ h => h) (csH_in hm hro h7 h8)]
        rfl
      · rw [hn] at hb; cases hb
    · rename_i hb; exact .inr hb
    · cases h6
  · exact allMine_of (hmine fun b k hm => eqH_mem he hm)
  · intro b x hb
    exact hr _ _ (lk_mem hb)
  · intro b x hb
    exact hs _ _ (lk_mem hb)

def idP (k : Nat) (l : List Src) : Bool := (List.range k).all fun i => decide (l[i]? = some (.old i))
theorem idP_ok {k : Nat} {l : List Src} (h : idP k l = true) (i : Nat) (hi : i < k) : pi l i = some (.old i) := by
  have := List.all_eq_true.1 h i (List.mem_range.2 hi)
  exact of_decide_eq_true this
/-- A RETURN; l: what each number of the contract is here. -/
theorem retX {rs : List Rs} {k n1 : Nat} {v : V} {F1 : FH} {e : Exit} {fr : Fr} {L : HL} {n : Nat} {vs : List V} (l : List Src) (he : e = .ret ∨ e = .normal) (h : rsL fr L rs = some vs) (hv : rnV l v = some (tupV vs))
    (hl1 : (decide (l.length = n1) && (idP k l && injB l F1)) = true) (hh : eqH l L F1) : RetS rs k v (hl F1) n1 e fr L n := by
  simp only [Bool.and_eq_true, decide_eq_true_eq] at hl1
  obtain ⟨h1, h2, h3⟩ := hl1
  refine ⟨he, vs, pi l, h, rnV_ok hv, idP_ok h2, fun i hi => ?_, eqH_ren hh, injB_ok h3⟩
  unfold pi
  rw [List.getElem?_eq_none_iff, h1]
  exact hi

/-- .. the results' values not told ahead. -/
theorem retK {rs : List Rs} {k n1 : Nat} {v : V} {F1 : FH} {e : Exit} {fr : Fr} {L : HL} {n : Nat} (l : List Src) (he : e = .ret ∨ e = .normal) (h : (rsL fr L rs).isSome = true) (hv : rnV l v = (rsL fr L rs).map tupV)
    (hl1 : (decide (l.length = n1) && (idP k l && injB l F1)) = true) (hh : eqH l L F1) : RetS rs k v (hl F1) n1 e fr L n := by
  cases hr : rsL fr L rs with
  | none => rw [hr] at h; cases h
  | some vs => exact retX l he hr (by rw [hv, hr]; rfl) hl1 hh
def rnF (l : List Src) (fr : Fr) : Fr → Prop
  | [] => True
  | (s, v) :: r => rnV l v = some (fget fr s) ∧ rnF l fr r
theorem rnF_ok {l : List Src} {fr : Fr} : ∀ {fr2 : Fr}, rnF l fr fr2 → RenF (pi l) fr fr2
  | [], _ => trivial
  | (s, v) :: r, h => ⟨rnV_ok h.1, rnF_ok h.2⟩
/-- A LOOP's STATE TOLD ANEW; l: what each new number is of the old ones. -/
theorem LoopS.ren {m : Nat} {c : C} {R : Fr → HL → Nat → (Exit → Fr → HL → Nat → Prop) → Prop} {ks : List Nat} {Q : Exit → Fr → HL → Nat → Prop} {fr fr2 : Fr} {L : HL} {F2 : FH} {n n2 : Nat} (l : List Src) (h : LoopS P gid N kk m c R ks fr2 (hl F2) n2 Q)
    (hl1 : (decide (l.length = n2) && (idP kk l && injB l F2)) = true) (hle : kk ≤ n2) (hf : rnF l fr fr2) (hh : eqH l L F2) : LoopS P gid N kk m c R ks fr L n Q := by
  simp only [Bool.and_eq_true, decide_eq_true_eq] at hl1
  obtain ⟨h1, h2, h3⟩ := hl1
  refine ⟨fun X hX hW => ?_⟩
  refine hW _ _ _ fr2 (hl F2) n2 (fun E ρ a w hk hs => ⟨_, hs.ren (pi l) (by rw [hk]; exact idP_ok h2) (fun i hi => ?_) (by rw [hk]; exact hle) (rnF_ok hf) (eqH_ren hh) (injB_ok h3)⟩) (h.h X hX hW)
  unfold pi
  rw [List.getElem?_eq_none_iff, h1]
  exact hi

/-- A LOOP BY A MEASURE. -/
theorem LoopS.ind {S : Type} (fr : S → Fr) (L : S → HL) (n : Nat) (inv : S → Prop) (ms : S → Nat) {m : Nat} {c : C} {R : Fr → HL → Nat → (Exit → Fr → HL → Nat → Prop) → Prop} {ks : List Nat} {Q : Exit → Fr → HL → Nat → Prop}
    (hr : ∀ s, inv s → (∀ s', inv s' → ms s' < ms s → LoopS P gid N kk m c R ks (fr s') (L s') n Q) → LoopS P gid N kk m c R ks (fr s) (L s) n Q) (s : S) (h : inv s) : LoopS P gid N kk m c R ks (fr s) (L s) n Q := by
  induction hm : ms s using Nat.strongRecOn generalizing s with
  | _ k ih => exact hr s h fun s' h' hlt => ih (ms s') (by omega) s' h' rfl
end

theorem brD_intro {p : Prop} [Decidable p] {x y : Prop} (h1 : p → x) (h2 : ¬ p → y) : brT (decide p) x y := brT_intro (fun h => h1 (of_decide_eq_true h)) (fun h => h2 (of_decide_eq_false h))
abbrev vi (z : Int) : V := .val (i64 z)
abbrev vb (b : Bool) : V := .val (.bool b)
/-! ### Small laws on rows -/
theorem subAll (e : TypeId) (c : List Value) : (Blk.own e (vals c)).sub 0 c.length = vals c := by
  simp only [Blk.sub, Blk.cellsV, List.drop_zero]
  exact List.take_of_length_le (by simp)
theorem subRo (c : List Value) : (Blk.ro c).sub 0 c.length = vals c := by
  simp only [Blk.sub, Blk.cellsV, List.drop_zero]
  exact List.take_of_length_le (by simp)
end Go.Abs
