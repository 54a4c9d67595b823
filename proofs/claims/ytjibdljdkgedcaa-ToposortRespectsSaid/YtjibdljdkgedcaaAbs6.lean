/-
  The abstract operations are sound, third part: aggregates, operators, lengths, appends. No condition.
-/
import Derived.Test.YtjibdljdkgedcaaAbs5
import Derived.Laws.StructEq
set_option linter.unusedSimpArgs false
set_option linter.unusedVariables false
namespace Go.Proofs.Ytjibdljdkgedcaa.Abs
open Go.RowKit
variable {P : Program}

theorem foldl_splice (off : Nat) : ∀ (us : List Value) (k : Nat) (cs : Array Value),
    ((us.zipIdx k).foldl (fun cs x => cs.setIfInBounds (off + x.2) x.1) cs).toList = splice cs.toList (off + k) us
  | [], k, cs => by simp [splice]
  | u :: us, k, cs => by
    simp only [List.zipIdx_cons, List.foldl_cons, splice]
    rw [foldl_splice off us (k + 1) _]
    simp [Nat.add_assoc]

/-- Parts of a literal: the same places, related values. -/
def relParts (s : RS) : List (Nat × D) → List (Nat × Value) → Prop
  | [], ps => ps = []
  | (i, d) :: r, ps => ∃ v q, ps = (i, v) :: q ∧ rel s d v ∧ relParts s r q

theorem fill_sound {s : RS} {place : Nat → Option (Nat × Nat)} : ∀ {parts : List (Nat × D)} {vparts : List (Nat × Value)} {cs cs' : List D} {vs : List Value},
    fillD place cs parts = some cs' → relParts s parts vparts → relAll s cs vs → ones vs →
    ∃ vs', Instr.fill place vs.toArray vparts = some (List.toArray vs') ∧ relAll s cs' vs' ∧ ones vs'
  | [], vparts, cs, cs', vs, h, hp, hr, h1 => by
    simp only [relParts] at hp; subst hp
    simp only [fillD, Option.some.injEq] at h; subst h
    exact ⟨vs, rfl, hr, h1⟩
  | (i, d) :: r, vparts, cs, cs', vs, h, hp, hr, h1 => by
    simp only [relParts] at hp
    obtain ⟨v, q, rfl, hv, hq⟩ := hp
    simp only [fillD] at h
    split at h
    · rename_i off size ds hpl hds
      split at h
      · rename_i hc
        obtain ⟨hc1, hc2⟩ := hc
        obtain ⟨hrv, hov⟩ := rel_cells hv hds
        have hsz := rel_size_pos hv hds
        have hlv := relAll_length hr
        obtain ⟨vs', h3, h4, h5⟩ := fill_sound (s := s) h hq (relAll_splice off hrv hr) (ones_splice off hov h1)
        refine ⟨vs', ?_, h4, h5⟩
        simp only [Instr.fill, hpl]
        rw [if_neg (by simp; omega)]
        rw [← h3]
        congr 1
        apply Array.ext'
        have := foldl_splice off v.cells.toList 0 vs.toArray
        simp only [Nat.add_zero] at this
        rw [← this]
        rw [← Array.foldl_toList, Array.toList_zipIdx]
      · cases h
    · cases h

theorem run_zeroValue {t : TypeId} {zs : List D} (h : zeroT P t = some zs) :
    ∃ z : Value, (∀ w, (zeroValue t).run P w = .ok z w) ∧ (∀ s, relAll s zs z.cells.toList) ∧ ones z.cells.toList ∧ z.cells.size = sizeT P t := by
  unfold zeroT at h
  simp only [Option.bind_eq_some_iff] at h
  obtain ⟨z, ⟨i, hi, hz⟩, h⟩ := h
  split at h
  · rename_i hc
    cases h
    refine ⟨z, fun w => by simp [zeroValue, typeInfo, hi, hz], fun s => relAll_ofCells s _, fun u hu => by simpa using List.all_eq_true.1 hc.2 u hu, hc.1⟩
  · cases h

theorem run_places {fs : List Field} (h : fs.all (fun f => (P.info? f.type).isSome) = true) (w : World) :
    (fs.mapM fun f => do pure (f.offset, ← sizeOf f.type) : Sem (List (Nat × Nat))).run P w = .ok (fs.map fun f => (f.offset, sizeT P f.type)) w := by
  induction fs with
  | nil => simp
  | cons f fs ih =>
    simp only [List.all_cons, Bool.and_eq_true] at h
    obtain ⟨i, hi⟩ := Option.isSome_iff_exists.1 h.1
    have ih' := ih h.2
    simp only [List.mapM_cons, Sem.run_bind, Sem.run_pure, run_sizeOf hi, Result.andThen_ok, ih', List.map_cons]

theorem build_sound {s : RS} {w : World} {t : TypeId} {parts : List (Nat × D)} {vparts : Array (Nat × Value)} {d : D} (hd : buildD P t parts = some d) (hp : relParts s parts vparts.toList) :
    ∃ u, (Instr.build t vparts).run P w = .ok u w ∧ rel s d u := by
  unfold buildD at hd
  cases hz : zeroT P t with
  | none => rw [hz] at hd; cases hd
  | some zs =>
    rw [hz] at hd
    simp only at hd
    obtain ⟨z, hzr, hzrel, hzo, hzs⟩ := run_zeroValue hz
    cases hu : P.underlying t with
    | none => rw [hu] at hd; cases hd
    | some desc =>
      rw [hu] at hd
      cases desc <;> first | (cases hd; done) | skip
      case struct fs =>
        simp only at hd
        split at hd
        · rename_i hok
          simp only [Option.map_eq_some_iff] at hd
          obtain ⟨cs', hf, rfl⟩ := hd
          simp only [fieldsOK, hu] at hok
          obtain ⟨vs', h3, h4, h5⟩ := fill_sound (s := s) (vs := z.cells.toList) hf hp (hzrel s) hzo
          refine ⟨.agg vs'.toArray, ?_, ?_⟩
          · have hpl : (fs.mapM fun f => do pure (f.offset, ← sizeOf f.type) : Sem (Array (Nat × Nat))).run P w = .ok (fs.map fun f => (f.offset, sizeT P f.type)) w := by
              rw [Array.mapM_eq_mapM_toList]
              simp only [Sem.run_map, run_places hok w, Result.andThen_ok]
              congr 1
              apply Array.ext'
              simp
            have hfun : (fun i => Option.map (fun x => match x with | (o, ft) => (o, sizeT P ft)) (fieldT P t i)) = fun i => (fs.map fun f => (f.offset, sizeT P f.type))[i]? := by
              funext i
              simp only [fieldT, hu, Array.getElem?_map, Option.map_map]
              rfl
            rw [hfun] at h3
            simp only [Array.toArray_toList] at h3
            simp only [Instr.build, Sem.run_bind, hzr, Result.andThen_ok, run_underlying hu, hpl, h3, Sem.run_pure]
          · simp only [rel]; exact ⟨vs', rfl, h4, h5⟩
        · cases hd
      case array n e =>
        simp only at hd
        split at hd
        · rename_i hne
          simp only [Option.map_eq_some_iff] at hd
          obtain ⟨cs', hf, rfl⟩ := hd
          obtain ⟨inf, hinf⟩ := info_of_size hne
          obtain ⟨vs', h3, h4, h5⟩ := fill_sound (s := s) (vs := z.cells.toList) hf hp (hzrel s) hzo
          refine ⟨.agg vs'.toArray, ?_, ?_⟩
          · simp only [Array.toArray_toList] at h3
            simp only [Instr.build, Sem.run_bind, hzr, Result.andThen_ok, run_underlying hu, run_sizeOf hinf, h3, Sem.run_pure]
          · simp only [rel]; exact ⟨vs', rfl, h4, h5⟩
        · cases hd

theorem cellsAll_rel {s : RS} {n : Nat} : ∀ {ds cs : List D} {vs : List Value}, cellsAll n ds = some cs → relAll s ds vs →
    relAll s cs (vs.flatMap (·.cells.toList)) ∧ ones (vs.flatMap (·.cells.toList)) ∧ (∀ v ∈ vs, v.cells.size = n)
  | [], cs, vs, h, hr => by
    simp only [relAll] at hr; subst hr
    simp only [cellsAll, Option.some.injEq] at h; subst h
    exact ⟨by simp [relAll], by simp [ones], by simp⟩
  | d :: ds, cs, vs, h, hr => by
    simp only [relAll] at hr
    obtain ⟨v, r, rfl, hv, hr⟩ := hr
    simp only [cellsAll] at h
    split at h
    · rename_i c q hc hq
      split at h
      · rename_i hl
        cases h
        obtain ⟨h1, h2, h3⟩ := cellsAll_rel hq hr
        obtain ⟨h4, h5⟩ := rel_cells hv hc
        refine ⟨by simpa using relAll_append h4 h1, by simpa using ones_append h5 h2, fun u hu => ?_⟩
        rcases List.mem_cons.1 hu with rfl | hu
        · rw [rel_size_pos hv hc]; exact hl
        · exact h3 u hu
      · cases h
    · cases h

theorem flat_length {n : Nat} : ∀ {vs : List Value}, (∀ v ∈ vs, v.cells.size = n) → (vs.flatMap (·.cells.toList)).length = vs.length * n
  | [], _ => by simp
  | v :: vs, h => by
    simp only [List.flatMap_cons, List.length_append, Array.length_toList, List.length_cons, h v (by simp)]
    rw [flat_length (fun u hu => h u (List.mem_cons_of_mem _ hu)), Nat.add_mul]; omega
theorem flat_get {n : Nat} : ∀ {vs : List Value}, (∀ v ∈ vs, v.cells.size = n) → ∀ (i : Nat) (v : Value) (j : Nat) (c : Value), vs[i]? = some v → v.cells.toList[j]? = some c →
    (vs.flatMap (·.cells.toList))[i * n + j]? = some c
  | [], _, i, v, j, c, hi, _ => by simp at hi
  | u :: vs, h, 0, v, j, c, hi, hj => by
    simp at hi; subst hi
    simp only [List.flatMap_cons, Nat.zero_mul, Nat.zero_add]
    rw [List.getElem?_append_left]
    · exact hj
    · rcases Nat.lt_or_ge j u.cells.toList.length with h1 | h1
      · exact h1
      · rw [List.getElem?_eq_none h1] at hj; cases hj
  | u :: vs, h, i + 1, v, j, c, hi, hj => by
    have hu : u.cells.toList.length = n := by simpa using h u (by simp)
    simp only [List.flatMap_cons]
    rw [List.getElem?_append_right (by rw [hu, Nat.add_mul]; omega), hu]
    have : (i + 1) * n + j - n = i * n + j := by rw [Nat.add_mul]; omega
    rw [this]
    exact flat_get (fun x hx => h x (List.mem_cons_of_mem _ hx)) i v j c (by simpa using hi) hj

theorem fill_seq {n : Nat} : ∀ (vs : List Value) (k : Nat) (A : List Value), (∀ v ∈ vs, v.cells.size = n) → A.length = (k + vs.length) * n →
    Instr.fill (fun i => some (i * n, n)) A.toArray ((List.range' k vs.length).zip vs) = some ((A.take (k * n) ++ vs.flatMap (·.cells.toList)).toArray)
  | [], k, A, _, hl => by
    simp only [List.length_nil, Nat.add_zero] at hl
    simp [Instr.fill, ← hl]
  | v :: vs, k, A, h, hl => by
    have hv : v.cells.size = n := h v (by simp)
    simp only [List.length_cons] at hl ⊢
    simp only [List.range'_succ, List.zip_cons_cons, Instr.fill]
    have hle : k * n + n ≤ A.length := by rw [hl]; have : (k + (vs.length + 1)) * n = k * n + n + vs.length * n := by rw [Nat.add_mul, Nat.add_mul]; omega
                                          omega
    rw [if_neg (by simp [hv]; omega)]
    have hsp : (v.cells.zipIdx.foldl (fun cs x => cs.setIfInBounds (k * n + x.2) x.1) A.toArray) = (splice A (k * n) v.cells.toList).toArray := by
      apply Array.ext'
      have := foldl_splice (k * n) v.cells.toList 0 A.toArray
      simp only [Nat.add_zero] at this
      rw [← Array.foldl_toList, Array.toList_zipIdx]
      exact this
    have ih := fill_seq vs (k + 1) (splice A (k * n) v.cells.toList) (fun u hu => h u (List.mem_cons_of_mem _ hu)) (by rw [splice_length, hl]; congr 1; omega)
    have hgoal : (splice A (k * n) v.cells.toList).take ((k + 1) * n) = A.take (k * n) ++ v.cells.toList := by
      rw [splice_eq _ _ _ (by simp [hv]; omega)]
      have : (k + 1) * n = (A.take (k * n) ++ v.cells.toList).length := by
        simp [hv, Nat.add_mul]; omega
      rw [this, List.take_left]
    rw [hgoal] at ih
    simp only [List.flatMap_cons, ← List.append_assoc]
    rw [← ih]
    congr 1

theorem relParts_of {s : RS} (ρ : Operand → Value) (ev : Operand → D) (h : ∀ x, rel s (ev x) (ρ x)) : ∀ (parts : List (Nat × Operand)),
    relParts s (parts.map fun x => (x.1, ev x.2)) (parts.map fun x => (x.1, ρ x.2))
  | [] => rfl
  | _ :: ps => ⟨_, _, rfl, h _, relParts_of ρ ev h ps⟩
theorem relAll_map {s : RS} (ρ : Operand → Value) (ev : Operand → D) (h : ∀ x, rel s (ev x) (ρ x)) : ∀ (xs : List Operand), relAll s (xs.map ev) (xs.map ρ)
  | [] => relAll_nil
  | x :: xs => relAll_cons (h x) (relAll_map ρ ev h xs)

theorem hasZero_some {t : TypeId} (h : hasZero P t = true) : ∃ i z, P.info? t = some i ∧ i.zero = some z ∧ z.cells.size = sizeT P t := by
  unfold hasZero at h
  cases hi : P.info? t with
  | none => rw [hi] at h; simp at h
  | some i =>
    rw [hi] at h
    cases hz : i.zero with
    | none => simp [hz] at h
    | some z => simp [hz] at h; exact ⟨i, z, rfl, hz, h⟩

/-- The row that a slice literal makes. -/
theorem run_buildSlice {t e : TypeId} {len : Nat} {vparts : Array (Nat × Value)} {vs : List Value} {w : World} (hu : P.underlying t = some (.slice e)) (hsz : sizeT P e ≠ 0)
    (hle : len * sizeT P e ≤ 2 ^ 24) (hz : len = 0 ∨ hasZero P e = true) (hp : vparts.toList = (List.range len).zip vs) (hl : vs.length = len) (hvs : ∀ v ∈ vs, v.cells.size = sizeT P e) :
    (Instr.buildSlice t len vparts).run P w = .ok (.slice (some ⟨w.heap.size, 0, none⟩) len len) (w.alloc (.cells (vs.flatMap (·.cells.toList)).toArray e)) := by
  obtain ⟨inf, hinf⟩ := info_of_size hsz
  have hfill : ∀ z : Array Value, Instr.fill (fun i => some (i * sizeT P e, sizeT P e)) ((Array.range (len * sizeT P e)).map fun x => z[x % z.size]!) vparts.toList = some (vs.flatMap (·.cells.toList)).toArray := by
    intro z
    have := fill_seq (n := sizeT P e) vs 0 ((Array.range (len * sizeT P e)).map fun x => z[x % z.size]!).toList hvs (by simp [hl])
    simp only [Nat.zero_mul, List.take_zero, List.nil_append, hl, Array.toArray_toList] at this
    rw [hp, List.range_eq_range']
    exact this
  have hle' : ¬ (len * sizeT P e > 2 ^ 24) := by omega
  by_cases h0 : len * sizeT P e = 0
  · simp only [Instr.buildSlice, Sem.run_bind, run_underlying hu, Result.andThen_ok, run_sizeOf hinf, if_neg hle', if_pos h0, Sem.run_pure, hfill #[], newRow, run_newObj]
    rfl
  · rcases hz with rfl | hz
    · exact (h0 (by simp)).elim
    · obtain ⟨i, z, hi, hz, _⟩ := hasZero_some hz
      have hzv : (zeroValue e).run P w = .ok z w := by simp [zeroValue, typeInfo, hi, hz]
      simp only [Instr.buildSlice, Sem.run_bind, run_underlying hu, Result.andThen_ok, run_sizeOf hinf, if_neg hle', if_neg h0, hzv, Sem.run_pure, hfill z.cells, newRow, run_newObj]
      rfl

theorem unD_sound {s : RS} {w : World} {op : UnOp} {x d : D} {v : Value} (hd : unD op x = some d) (hx : rel s x v) : ∃ u, (Op.unary op v).run P w = .ok u w ∧ rel s d u := by
  unfold unD at hd
  split at hd
  · split at hd <;> first | (cases hd; done) | skip
    cases hd
    simp only [rel] at hx; subst hx
    exact ⟨_, by simp [Op.unary]; rfl, by simp [rel]⟩
  · split at hd <;> first | (cases hd; done) | skip
    cases hd
    simp only [rel] at hx; subst hx
    exact ⟨_, by simp [Op.unary, Op.intArith]; rfl, by simp [rel]⟩
  · cases hd

theorem lenD_sound {s : RS} {w : World} (h : RH P s w) {t ty : TypeId} {x d : D} {v : Value} (hd : lenD P s.H t x = some d) (hx : rel s x v) : ∃ u, (Builtin.len_ #[t] ty #[v]).run P w = .ok u w ∧ rel s d u := by
  unfold lenD at hd
  split at hd
  · rename_i nn sz els
    simp only [Option.map_eq_some_iff] at hd
    obtain ⟨e, he, rfl⟩ := hd
    simp only [rel] at hx
    rcases hx with ⟨_, rfl, rfl⟩ | ⟨a, cap, vs, rfl, _⟩
    · exact ⟨_, by simp [Builtin.len_, run_underlying (elemT_some he), goInt]; rfl, by simp [rel]⟩
    · exact ⟨_, by simp [Builtin.len_, run_underlying (elemT_some he), goInt]; rfl, by simp [rel]⟩
  · simp only [Option.map_eq_some_iff] at hd
    obtain ⟨e, he, rfl⟩ := hd
    simp only [rel] at hx; subst hx
    exact ⟨_, by simp [Builtin.len_, run_underlying (elemT_some he), goInt]; rfl, by simp [rel]⟩
  · simp only [Option.map_eq_some_iff] at hd
    obtain ⟨e, he, rfl⟩ := hd
    simp only [rel] at hx
    obtain ⟨_, ⟨a, c, rfl⟩, _⟩ := hx
    exact ⟨_, by simp [Builtin.len_, run_underlying (elemT_some he), goInt]; rfl, by simp [rel]⟩
  · rename_i id
    split at hd
    · rename_i es hes
      simp only [Option.map_eq_some_iff] at hd
      obtain ⟨⟨k, e⟩, he, rfl⟩ := hd
      simp only [rel] at hx
      obtain ⟨_, _, hx⟩ := hx
      have hv := hx _ hes
      obtain ⟨r, ens, c, hk, hh, hr1, hr2⟩ := (h.obj _ _ hes).2
      rw [hk] at hv; subst hv
      have hl := relAll_length hr1
      simp only [List.length_map, Array.length_toList] at hl
      exact ⟨.int .i64 ens.size, by simp [Builtin.len_, run_underlying (mapT_some he), getObj, Sem.run, hh, goInt], by simp [rel, hl]⟩
    · cases hd
  · split at hd
    · rename_i hs
      cases hd
      simp only [rel] at hx; subst hx
      exact ⟨_, by simp [Builtin.len_, run_underlying (strT_some hs), goInt]; rfl, by simp [rel]⟩
    · cases hd
  · cases hd

end Go.Proofs.Ytjibdljdkgedcaa.Abs
