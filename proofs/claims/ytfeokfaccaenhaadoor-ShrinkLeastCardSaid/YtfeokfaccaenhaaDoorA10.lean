/- The abstract logic, part 10: bytes and strings. -/
import Derived.Test.YtfeokfaccaenhaaDoorA9
import Derived.Lib.AppendStr
import Derived.Laws.IdiomStrings
import Derived.Laws.BytesArg
set_option linter.unusedVariables false
set_option linter.unusedSimpArgs false
namespace Go.Abs
open Go.Lib
section
variable {P : Program} {gid : Nat → Option Nat}

def ku8 : List V → Option (List Int)
  | [] => some []
  | .val (.int .u8 z) :: r => match ku8 r with
    | some l => some (z :: l)
    | none => none
  | _ :: _ => none
theorem ku8_vr {ρ : Env} : ∀ {cs : List V} {l : List Int} {vs : List Value}, ku8 cs = some l → VrL ρ cs vs → vs = l.map (Value.int .u8)
  | [], l, [], h, _ => by simp [ku8] at h; subst h; rfl
  | c :: cs, l, v :: vs, h, hv => by
    unfold ku8 at h
    split at h
    · rename_i he; cases he
    · rename_i z r he
      cases he
      split at h
      · rename_i l' hl
        cases h
        simp only [VrL, Vr] at hv
        rw [hv.1, ku8_vr hl hv.2]
        rfl
      · cases h
    · cases h
  | [], _, _ :: _, _, hv => by simp only [VrL] at hv
  | _ :: _, _, [], _, hv => by simp only [VrL] at hv
def strOf (l : List Int) : ByteArray := ⟨(l.map fun z => UInt8.ofNat z.toNat).toArray⟩
theorem foldl_push : ∀ (l : List Int) (r : ByteArray), l.foldl (fun r n => r.push (UInt8.ofNat n.toNat)) r = ⟨r.data ++ (l.map fun z => UInt8.ofNat z.toNat).toArray⟩
  | [], r => by simp
  | b :: l, r => by
    simp only [List.foldl_cons]
    rw [foldl_push l]
    simp [ByteArray.push]

variable {F : FF} {n : Nat} {d : Option Tmp} {ty : TypeId} {pos : String} {aft : Array Edge} {gd : Option (Nat × Bool)}

theorem ok_b2s {src dst e : TypeId} (hs : P.underlying src = some (.slice e)) (he : P.underlying e = some (.int .u8)) (hd : P.underlying dst = some .string) {x : Operand} {b o len : Nat} {k2 : Blk} {l : List Int} (hx : ev gid F x = .sl b o len)
    (hle : o + len ≤ k2.cellsV.length) (hl : ku8 (k2.sub o len) = some l) :
    OpOK P gid ⟨d, .convert src dst x, ty, pos, aft, gd⟩ F [(b, k2)] [] [] n n (.val (.string (strOf l))) :=
  OpOK.pure fun E ρ H w a h1 h3 h4 => by
    have hHb := h4 b _ (lk_self _ _)
    have h5 := h3 x (by simp [Op.operands])
    rw [hx] at h5
    simp only [Vr] at h5
    obtain ⟨lc, B, c, hlc, hxe, hlen, hB0, hB⟩ := h5
    obtain ⟨vs, hV, hvl, hc⟩ := read_row (h1.own.ok b _ hHb) o len hle
    have hvs := ku8_vr hl hV
    refine ⟨.string (strOf l), ?_, by simp [Vr]⟩
    have hcv : (convert src dst (.slice B len c)).run P w = .ok (.string (strOf l)) w := by
      have := run_convert_bytes_string w src dst e B len c hs he hd
      rw [this]
      rcases Nat.eq_zero_or_pos len with h0 | h0
      · subst h0
        have : l = [] := by
          have : l.length = 0 := by rw [hvs] at hvl; simpa using hvl
          exact List.eq_nil_of_length_eq_zero this
        subst this
        cases B with
        | none => simp [Conv.bytesToString]; rfl
        | some ad =>
          have h6 : (loadCells ad 0).run P w = .ok (([] : List Int).map (Value.int .u8)).toArray w := run_loadN (vs := []) rfl (by simp)
          have := run_bytesToString w ad 0 c [] h6
          rw [this]
          rfl
      · obtain ⟨ad, ha, rfl⟩ := hB h0
        obtain ⟨lc', a', hl', ha', hcell⟩ := hc h0
        rw [hlc] at hl'; cases hl'
        rw [ha] at ha'; cases ha'
        have h6 : (loadCells (ad.add o) len).run P w = .ok (l.map (Value.int .u8)).toArray w := by
          rw [← hvs]
          exact run_loadN hvl hcell
        rw [run_bytesToString w (ad.add o) len c l h6, foldl_push]
        have he0 : ByteArray.empty.data = #[] := rfl
        rw [he0]
        simp [strOf]
    simp [execOp, hxe, hcv]

theorem ok_b2s_nil {src dst e : TypeId} (hs : P.underlying src = some (.slice e)) (he : P.underlying e = some (.int .u8)) (hd : P.underlying dst = some .string) {x : Operand} (hx : ev gid F x = .val (.slice none 0 0)) :
    OpOK P gid ⟨d, .convert src dst x, ty, pos, aft, gd⟩ F [] [] [] n n (.val (.string (strOf []))) :=
  OpOK.pure fun E ρ H w a h1 h3 h4 => by
    have h5 := h3 x (by simp [Op.operands])
    rw [hx] at h5
    simp only [Vr] at h5
    refine ⟨.string (strOf []), ?_, by simp [Vr]⟩
    have hcv : (convert src dst (.slice none 0 0)).run P w = .ok (.string (strOf [])) w := by
      rw [run_convert_bytes_string w src dst e none 0 0 hs he hd]
      simp [Conv.bytesToString]
      rfl
    simp [execOp, h5, hcv]

/-- WHAT append OF A STRING's BYTES COMES TO. -/
theorem run_appends_abs (w : World) (t u ty e : TypeId) (i : TypeInfo) (z : Value) (ht : P.underlying t = some (.slice e)) (hu : P.underlying u = some .string) (hi : P.info? e = some i) (hz : i.zero = some z)
    (hzs : z.cells.size = i.size) (hs1 : i.size = 1) (A : Option Addr) (len cap : Nat) (xs : List Value) (s : ByteArray)
    (hA : (A = none ∧ cap = 0 ∧ len = 0 ∧ xs = []) ∨ ∃ g cur, A = some ⟨g, 0, none⟩ ∧ w.heap[g]? = some (.cells cur e (0, 0)) ∧ cur.size = cap * i.size ∧ cap ≤ maxLen ∧ xs.length = len * i.size ∧ len ≤ cap ∧ cur.toList.take xs.length = xs)
    (hsm : len + s.size ≤ 1000000000) (hby : i.bytes ≤ 100000) :
    ∃ A' cap' w', (Builtin.append_ #[t, u] ty #[.slice A len cap, .string s]).run P w = .ok (.slice A' (len + s.size) cap') w' ∧ Only (fun g => A.map (·.block) = some g) w w' ∧
      ((A' = none ∧ cap' = 0 ∧ len + s.size = 0 ∧ xs ++ strCells s = []) ∨ ∃ g cur, A' = some ⟨g, 0, none⟩ ∧ w'.heap[g]? = some (.cells cur e (0, 0)) ∧ cur.size = cap' * i.size ∧ cap' ≤ maxLen ∧ (xs ++ strCells s).length ≤ cur.size ∧ len + s.size ≤ cap' ∧
        cur.toList.take (xs ++ strCells s).length = xs ++ strCells s ∧ (A = some ⟨g, 0, none⟩ ∨ w.heap.size ≤ g)) := by
  have hl : (strCells s).length = s.size * i.size := by rw [strCells_length, hs1, Nat.mul_one]
  have hbytes : (len + s.size) * i.bytes ≤ 140737488355328 := by
    have := Nat.mul_le_mul hsm hby
    omega
  have h63 : len + s.size ≤ maxLen := by simp only [maxLen]; omega
  have grown : ∀ (old : Nat), old < len + s.size → (xs.length = len * i.size) →
      ∃ g cur, (some ⟨w.heap.size, 0, none⟩ : Option Addr) = some ⟨g, 0, none⟩ ∧ (w.drew.alloc (.cells (xs.toArray ++ (strCells s).toArray ++ Builtin.zeroCells z.cells (grownCap w (len + s.size) old e - (len + s.size))) e)).heap[g]? = some (.cells cur e (0, 0)) ∧
        cur.size = grownCap w (len + s.size) old e * i.size ∧ grownCap w (len + s.size) old e ≤ maxLen ∧ (xs ++ strCells s).length ≤ cur.size ∧ len + s.size ≤ grownCap w (len + s.size) old e ∧ cur.toList.take (xs ++ strCells s).length = xs ++ strCells s ∧ (A = some ⟨g, 0, none⟩ ∨ w.heap.size ≤ g) := by
    intro old ho hxl
    have hge := grownCap_ge w (len + s.size) old e
    have hcm := grownCap_le_maxLen w (len + s.size) old e h63
    refine ⟨w.heap.size, _, rfl, heap_alloc_new' w.drew _, ?_, hcm, ?_, hge, ?_, .inr (Nat.le_refl _)⟩
    · simp only [Array.size_append, List.size_toArray, size_zeroCells, hzs, hxl, hl, ← Nat.add_mul]
      congr 1
      omega
    · simp only [Array.size_append, List.size_toArray, List.length_append]
      omega
    · simp only [Array.toList_append, List.append_assoc]
      rw [← List.append_assoc]
      exact List.take_left
  by_cases hroom : len + s.size ≤ cap
  · rcases hA with ⟨rfl, rfl, rfl, rfl⟩ | ⟨g, cur, rfl, h2, h3, h4, h5, h6, h7⟩
    · have h0 : s.size = 0 := by omega
      have hsn : strCells s = [] := List.eq_nil_of_length_eq_zero (by rw [strCells_length, h0])
      refine ⟨none, 0, w, ?_, Only.refl _ _, .inl ⟨rfl, rfl, by omega, by simp [hsn]⟩⟩
      have hf := run_firstCells_string (P := P) w i.size s
      simp [Builtin.append_, run_underlying ht, run_underlying hu, sizeOf, typeInfo, hi, Builtin.lenOf, h0] at hf ⊢
      simp [hf]
    · have hr := run_append_room_string (P := P) w t u ty e i ht hu hi hs1 g len cap cur h2 s hroom (by rw [h3, hs1]; omega)
      refine ⟨_, _, _, hr, (only_setRow w g _).mono fun x hx => by simp [hx], .inr ⟨g, _, rfl, setRow_heap w g cur _ e _ h2, ?_, h4, ?_, hroom, ?_, .inl rfl⟩⟩
      · simp only [List.size_toArray, List.length_append, List.length_take, List.length_drop, Array.length_toList, strCells_length, h3, hs1]
        omega
      · simp only [List.size_toArray, List.length_append, List.length_take, List.length_drop, Array.length_toList, strCells_length, h3, hs1, h5]
        omega
      · have hxl : xs.length = len := by rw [h5, hs1, Nat.mul_one]
        rw [← hxl, h7]
        have e1 : (xs ++ strCells s ++ cur.toList.drop (xs.length + s.size)).toArray.toList = (xs ++ strCells s) ++ cur.toList.drop (xs.length + s.size) := by simp
        rw [e1, List.take_left]
  · rcases hA with ⟨rfl, rfl, rfl, rfl⟩ | ⟨g, cur, rfl, h2, h3, h4, h5, h6, h7⟩
    · have hr := run_append_nil_string (P := P) w t u ty e i z ht hu hi hz s (by omega) (by omega) (by simp only [Nat.zero_add] at hbytes; omega)
      have hgr := grown 0 (by omega) (by simp)
      simp only [Nat.zero_add, List.nil_append, Array.empty_append] at hgr ⊢
      have hd : (s.data.map fun b => Value.int .u8 b.toNat) = (strCells s).toArray := by apply Array.ext'; simp [strCells]
      rw [hd] at hr
      refine ⟨_, _, _, hr, (only_drew w _).trans (only_alloc _ _ _), .inr ?_⟩
      simpa using hgr
    · have holds : ∀ j u, xs[j]? = some u → w.cell? ((⟨g, 0, none⟩ : Addr).add j) = some u := by
        intro j u hu
        rw [own_cell h2]
        rw [← h7, List.getElem?_take] at hu
        split at hu
        · simpa using hu
        · cases hu
      have hr := run_append_grow_string (P := P) w t u ty e i z ht hu hi hz ⟨g, 0, none⟩ len cap xs h5 holds s (by omega) (by omega) (growslice_fits (by omega) hbytes)
      exact ⟨_, _, _, hr, (only_drew w _).trans (only_alloc _ _ _), .inr (grown cap (by omega) h5)⟩

theorem VrL_str {ρ : Env} (s : ByteArray) : VrL ρ (vals (strCells s)) (strCells s) := VrL_vals.2 rfl

theorem ok_appends {t u e : TypeId} {i : TypeInfo} {z : Value} (ht : P.underlying t = some (.slice e)) (hu : P.underlying u = some .string) (hi : P.info? e = some i) (hz : i.zero = some z) (hzs : z.cells.size = i.size) (hs1 : i.size = 1) (hby : i.bytes ≤ 100000)
    {s x : Operand} {b len : Nat} {cs : List V} {str : ByteArray} (hs : ev gid F s = .sl b 0 len) (hx : ev gid F x = .val (.string str)) (hcs : cs.length = len * i.size) (hsm : len + str.size ≤ 1000000000) :
    OpOK P gid ⟨d, .call { callee := .builtin .append, args := #[s, x], argTypes := #[t, u] }, ty, pos, aft, gd⟩ F [] [(b, .own e cs)] [(n, .own e (cs ++ vals (strCells str)))] n (n + 1) (.sl n 0 (len + str.size)) :=
  OpOK.mk (Nat.le_succ _) fun E ρ H w a h1 hk h3 hrd hcsH hn => by
    have hn0 := hn n (Nat.le_refl _) (Nat.lt_succ_self _)
    have hHb := hcsH b _ (lk_self _ _)
    have h4 := h3 s (by simp [Op.operands, Call.operands])
    have h5 := h3 x (by simp [Op.operands, Call.operands])
    rw [hs] at h4
    rw [hx] at h5
    simp only [Vr] at h4 h5
    obtain ⟨l, A, c, hl, he, hlc, hA0, _⟩ := h4
    obtain ⟨lb, hlb, hbk⟩ := h1.own.ok b _ hHb
    rw [hl] at hlb; cases hlb
    obtain ⟨cap0, hcap0⟩ : ∃ k, l.cap = some k := by
      rcases hbk with ⟨_, h7, _⟩ | ⟨_, _, _, _, ⟨k, h7, _⟩, _⟩
      · exact ⟨_, h7⟩
      · exact ⟨_, h7⟩
    obtain ⟨rfl, rfl⟩ := hA0 trivial _ hcap0
    -- the row itself
    obtain ⟨xs, hVx, hxl, hA⟩ : ∃ xs, VrL ρ cs xs ∧ xs.length = len * i.size ∧ ((l.addr = none ∧ c = 0 ∧ len = 0 ∧ xs = []) ∨ ∃ g cur, l.addr = some ⟨g, 0, none⟩ ∧ w.heap[g]? = some (.cells cur e (0, 0)) ∧ cur.size = c * i.size ∧ c ≤ maxLen ∧ xs.length = len * i.size ∧ len ≤ c ∧ cur.toList.take xs.length = xs) := by
      rcases hbk with ⟨h6, h7, rfl⟩ | ⟨g, cur, h6, h7, ⟨k, hk7, h8, h9⟩, h10, h11⟩
      · rw [hcap0] at h7
        simp at h7
        have : len = 0 := by omega
        subst this
        exact ⟨[], by simp [VrL], by simp, .inl ⟨h6, h7, rfl, rfl⟩⟩
      · rw [hcap0] at hk7
        cases hk7
        have hxl : (cur.toList.take cs.length).length = len * i.size := by rw [← h11.length]; exact hcs
        refine ⟨_, h11, hxl, .inr ⟨g, cur, h6, h7, by rw [h8, cellsOf_eq hi], h9, hxl, hlc, ?_⟩⟩
        rw [← h11.length]
    obtain ⟨A', cap', w', hr, ho, hres⟩ := run_appends_abs (P := P) w t u ty e i z ht hu hi hz hzs hs1 l.addr len c xs str hA hsm hby
    have hVall : VrL ρ (cs ++ vals (strCells str)) (xs ++ strCells str) := hVx.append (VrL_str str)
    refine ⟨.slice A' (len + str.size) cap', w', eput ρ n ⟨A', some cap'⟩, .value _, ?_, .inl rfl, eput_grow hn0 _, ?_, ?_⟩
    · simp only [execOp, resolve, invoke, builtin, Sem.run_bind, Sem.run_pure, Result.andThen_ok, List.map_toArray, List.map_cons, List.map_nil, he, h5, hr]
    · refine h1.swap1 hk hn0 hHb rfl ?_ ?_ rfl ?_
      · refine ho.mono fun g hg => ⟨b, _, lk_self _ _, rfl, ?_⟩
        simpa [at?, hl] using hg
      · refine ⟨_, eput_self _ _ _, ?_⟩
        have hV3 := VrL.ext (eput_ext hn0 ⟨A', some cap'⟩) _ _ hVall
        rcases hres with ⟨h6, h7, _, h8⟩ | ⟨g, cur, h6, h7, h8, h9, h10, _, h11, _⟩
        · refine .inl ⟨h6, by rw [h7], ?_⟩
          have := hVall.length
          rw [h8] at this
          exact List.eq_nil_of_length_eq_zero (by simpa using this)
        · refine .inr ⟨g, cur, h6, h7, ⟨cap', rfl, by rw [cellsOf_eq hi]; exact h8, h9⟩, by rw [hVall.length]; exact h10, ?_⟩
          rw [hVall.length, h11]
          exact hV3
      · intro g hg
        rcases hres with ⟨h6, h7, _, h8⟩ | ⟨g', cur, h6, h7, h8, h9, h10, _, h11, h12⟩
        · simp [h6] at hg
        · have hgg : g' = g := by simpa [h6] using hg
          subst hgg
          rcases h12 with h12 | h12
          · exact .inl (by simp [at?, hl, h12])
          · exact .inr h12
    · simp only [Vr]
      refine ⟨_, A', cap', eput_self _ _ _, rfl, ?_, fun _ k hk => ⟨rfl, by cases hk; rfl⟩, fun hp => ?_⟩
      · rcases hres with ⟨h6, h7, h8, _⟩ | ⟨g, cur, h6, h7, h8, h9, h10, h13, h11, _⟩ <;> omega
      · rcases hres with ⟨h6, h7, h8, _⟩ | ⟨g, cur, h6, h7, h8, h9, h10, h13, h11, _⟩
        · omega
        · exact ⟨_, h6, by rw [h6]; simp [Addr.add]⟩


theorem ok_appends_nil {t u e : TypeId} {i : TypeInfo} {z : Value} (ht : P.underlying t = some (.slice e)) (hu : P.underlying u = some .string) (hi : P.info? e = some i) (hz : i.zero = some z) (hzs : z.cells.size = i.size) (hs1 : i.size = 1) (hby : i.bytes ≤ 100000)
    {s x : Operand} {str : ByteArray} (hs : ev gid F s = .val (.slice none 0 0)) (hx : ev gid F x = .val (.string str)) (hsm : str.size ≤ 1000000000) :
    OpOK P gid ⟨d, .call { callee := .builtin .append, args := #[s, x], argTypes := #[t, u] }, ty, pos, aft, gd⟩ F [] [] [(n, .own e (vals (strCells str)))] n (n + 1) (.sl n 0 str.size) :=
  OpOK.mk (Nat.le_succ _) fun E ρ H w a h1 hk h3 hrd hcsH hn => by
    have hn0 := hn n (Nat.le_refl _) (Nat.lt_succ_self _)
    have he := h3 s (by simp [Op.operands, Call.operands])
    have h5 := h3 x (by simp [Op.operands, Call.operands])
    rw [hs] at he
    rw [hx] at h5
    simp only [Vr] at he h5
    obtain ⟨A', cap', w', hr, ho, hres⟩ := run_appends_abs (P := P) w t u ty e i z ht hu hi hz hzs hs1 none 0 0 [] str (.inl ⟨rfl, rfl, rfl, rfl⟩) (by omega) hby
    simp only [Nat.zero_add, List.nil_append] at hr hres
    refine ⟨.slice A' str.size cap', w', eput ρ n ⟨A', some cap'⟩, .value _, ?_, .inl rfl, eput_grow hn0 _, ?_, ?_⟩
    · simp only [execOp, resolve, invoke, builtin, Sem.run_bind, Sem.run_pure, Result.andThen_ok, List.map_toArray, List.map_cons, List.map_nil, he, h5, hr]
    · refine h1.new hk hn0 ?_ (ho.mono fun g hg => by simp at hg) ?_ rfl
      · intro g hg
        rcases hres with ⟨h6, _⟩ | ⟨g', cur, h6, h7, h8, h9, h10, _, h11, h12⟩
        · simp [h6] at hg
        · have hgg : g' = g := by simpa [h6] using hg
          subst hgg
          rcases h12 with h12 | h12
          · cases h12
          · exact h12
      · refine ⟨_, eput_self _ _ _, ?_⟩
        have hV3 := VrL.ext (eput_ext hn0 ⟨A', some cap'⟩) _ _ (VrL_str (ρ := ρ) str)
        rcases hres with ⟨h6, h7, _, h8⟩ | ⟨g, cur, h6, h7, h8, h9, h10, _, h11, _⟩
        · refine .inl ⟨h6, by rw [h7], ?_⟩
          have h8' : strCells str = [] := h8
          rw [h8']; rfl

        · refine .inr ⟨g, cur, h6, h7, ⟨cap', rfl, by rw [cellsOf_eq hi]; exact h8, h9⟩, by rw [(VrL_str (ρ := ρ) str).length]; exact h10, ?_⟩
          rw [(VrL_str (ρ := ρ) str).length, h11]
          exact hV3
    · simp only [Vr]
      refine ⟨_, A', cap', eput_self _ _ _, rfl, ?_, fun _ k hk => ⟨rfl, by cases hk; rfl⟩, fun hp => ?_⟩
      · rcases hres with ⟨h6, h7, h8, _⟩ | ⟨g, cur, h6, h7, h8, h9, h10, h13, h11, _⟩ <;> omega
      · rcases hres with ⟨h6, h7, h8, _⟩ | ⟨g, cur, h6, h7, h8, h9, h10, h13, h11, _⟩
        · omega
        · exact ⟨_, h6, by rw [h6]; simp [Addr.add]⟩


end
end Go.Abs
