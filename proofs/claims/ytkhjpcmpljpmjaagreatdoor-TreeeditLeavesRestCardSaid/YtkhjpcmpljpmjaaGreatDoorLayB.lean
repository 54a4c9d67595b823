import Derived.Test.YtkhjpcmpljpmjaaGreatDoorLayA
import Derived.Laws.StructEq
import Derived.Laws.MakeOwn
import Derived.Laws.Append
import Derived.MapKept
import Derived.Laws.RangeString
import Derived.Laws.IdiomStrings
import Derived.Laws.BytesArg
import Derived.Lib.OthersKept
set_option linter.unusedSimpArgs false
set_option linter.unusedVariables false
/-
  The abstract operations are sound, third part: aggregates, operators, lengths, appends. No condition.
-/
namespace Go.Proofs.YtkhjpcmpljpmjaaGreatDoor.Abs
open Go.RowKit
variable {P : Program}

theorem foldl_splice (off : Nat) : ∀ (us : List Value) (k : Nat) (cs : Array Value),
    ((us.zipIdx k).foldl (fun cs x => cs.setIfInBounds (off + x.2) x.1) cs).toList = splice cs.toList (off + k) us
  | [], k, cs => by simp [splice]
  | u :: us, k, cs => by
    simp only [List.zipIdx_cons, List.foldl_cons, splice]
    rw [foldl_splice off us (k + 1) _]
    simp [Nat.add_assoc]

def relParts (s : RS) : List (Nat × D) → List (Nat × Value) → Prop
  | [], ps => ps = []
  | (i, d) :: r, ps => ∃ v q, ps = (i, v) :: q ∧ rel s d v ∧ relParts s r q

theorem fill_sound {s : RS} {place : Nat → Option (Nat × Nat)} : ∀ {parts : List (Nat × D)} {vparts : List (Nat × Value)} {cs cs' : List D} {vs : List Value},
    fillD place cs parts = some cs' → relParts s parts vparts → relAll s cs vs → ones vs →
    ∃ vs', Instr.fill place vs.toArray vparts = some (List.toArray vs') ∧ relAll s cs' vs' ∧ ones vs'
  | [], vparts, cs, cs', vs, h, hp, hr, h1 => by
    simp only [relParts] at hp; subst hp
    simp only [fillD, Option.some.injEq] at h; subst h
    exact ⟨vs, rfl, hr, h1⟩
  | (i, d) :: r, vparts, cs, cs', vs, h, hp, hr, h1 => by
    simp only [relParts] at hp
    obtain ⟨v, q, rfl, hv, hq⟩ := hp
    simp only [fillD] at h
    split at h
    · rename_i off size ds hpl hds
      split at h
      · rename_i hc
        obtain ⟨hc1, hc2⟩ := hc
        obtain ⟨hrv, hov⟩ := rel_cells hv hds
        have hsz := rel_size_pos hv hds
        have hlv := relAll_length hr
        obtain ⟨vs', h3, h4, h5⟩ := fill_sound (s := s) h hq (relAll_splice off hrv hr) (ones_splice off hov h1)
        refine ⟨vs', ?_, h4, h5⟩
        simp only [Instr.fill, hpl]
        rw [if_neg (by simp; omega)]
        rw [← h3]
        congr 1
        apply Array.ext'
        have := foldl_splice off v.cells.toList 0 vs.toArray
        simp only [Nat.add_zero] at this
        rw [← this]
        rw [← Array.foldl_toList, Array.toList_zipIdx]
      · cases h
    · cases h

theorem run_zeroValue {t : TypeId} {zs : List D} (h : zeroT P t = some zs) :
    ∃ z : Value, (∀ w, (zeroValue t).run P w = .ok z w) ∧ (∀ s, relAll s zs z.cells.toList) ∧ ones z.cells.toList ∧ z.cells.size = sizeT P t := by
  unfold zeroT at h
  simp only [Option.bind_eq_some_iff] at h
  obtain ⟨z, ⟨i, hi, hz⟩, h⟩ := h
  split at h
  · rename_i hc
    cases h
    refine ⟨z, fun w => by simp [zeroValue, typeInfo, hi, hz], fun s => relAll_ofCells s _, fun u hu => by simpa using List.all_eq_true.1 hc.2 u hu, hc.1⟩
  · cases h

theorem run_places {fs : List Field} (h : fs.all (fun f => (P.info? f.type).isSome) = true) (w : World) :
    (fs.mapM fun f => do pure (f.offset, ← sizeOf f.type) : Sem (List (Nat × Nat))).run P w = .ok (fs.map fun f => (f.offset, sizeT P f.type)) w := by
  induction fs with
  | nil => simp
  | cons f fs ih =>
    simp only [List.all_cons, Bool.and_eq_true] at h
    obtain ⟨i, hi⟩ := Option.isSome_iff_exists.1 h.1
    have ih' := ih h.2
    simp only [List.mapM_cons, Sem.run_bind, Sem.run_pure, run_sizeOf hi, Result.andThen_ok, ih', List.map_cons]

theorem build_sound {s : RS} {w : World} {t : TypeId} {parts : List (Nat × D)} {vparts : Array (Nat × Value)} {d : D} (hd : buildD P t parts = some d) (hp : relParts s parts vparts.toList) :
    ∃ u, (Instr.build t vparts).run P w = .ok u w ∧ rel s d u := by
  unfold buildD at hd
  cases hz : zeroT P t with
  | none => rw [hz] at hd; cases hd
  | some zs =>
    rw [hz] at hd
    simp only at hd
    obtain ⟨z, hzr, hzrel, hzo, hzs⟩ := run_zeroValue hz
    cases hu : P.underlying t with
    | none => rw [hu] at hd; cases hd
    | some desc =>
      rw [hu] at hd
      cases desc <;> first | (cases hd; done) | skip
      case struct fs =>
        simp only at hd
        split at hd
        · rename_i hok
          simp only [Option.map_eq_some_iff] at hd
          obtain ⟨cs', hf, rfl⟩ := hd
          simp only [fieldsOK, hu] at hok
          obtain ⟨vs', h3, h4, h5⟩ := fill_sound (s := s) (vs := z.cells.toList) hf hp (hzrel s) hzo
          refine ⟨.agg vs'.toArray, ?_, ?_⟩
          · have hpl : (fs.mapM fun f => do pure (f.offset, ← sizeOf f.type) : Sem (Array (Nat × Nat))).run P w = .ok (fs.map fun f => (f.offset, sizeT P f.type)) w := by
              rw [Array.mapM_eq_mapM_toList]
              simp only [Sem.run_map, run_places hok w, Result.andThen_ok]
              congr 1
              apply Array.ext'
              simp
            have hfun : (fun i => Option.map (fun x => match x with | (o, ft) => (o, sizeT P ft)) (fieldT P t i)) = fun i => (fs.map fun f => (f.offset, sizeT P f.type))[i]? := by
              funext i
              simp only [fieldT, hu, Array.getElem?_map, Option.map_map]
              rfl
            rw [hfun] at h3
            simp only [Array.toArray_toList] at h3
            simp only [Instr.build, Sem.run_bind, hzr, Result.andThen_ok, run_underlying hu, hpl, h3, Sem.run_pure]
          · simp only [rel]; exact ⟨vs', rfl, h4, h5⟩
        · cases hd
      case array n e =>
        simp only at hd
        split at hd
        · rename_i hne
          simp only [Option.map_eq_some_iff] at hd
          obtain ⟨cs', hf, rfl⟩ := hd
          obtain ⟨inf, hinf⟩ := info_of_size hne
          obtain ⟨vs', h3, h4, h5⟩ := fill_sound (s := s) (vs := z.cells.toList) hf hp (hzrel s) hzo
          refine ⟨.agg vs'.toArray, ?_, ?_⟩
          · simp only [Array.toArray_toList] at h3
            simp only [Instr.build, Sem.run_bind, hzr, Result.andThen_ok, run_underlying hu, run_sizeOf hinf, h3, Sem.run_pure]
          · simp only [rel]; exact ⟨vs', rfl, h4, h5⟩
        · cases hd

theorem cellsAll_rel {s : RS} {n : Nat} : ∀ {ds cs : List D} {vs : List Value}, cellsAll n ds = some cs → relAll s ds vs →
    relAll s cs (vs.flatMap (·.cells.toList)) ∧ ones (vs.flatMap (·.cells.toList)) ∧ (∀ v ∈ vs, v.cells.size = n)
  | [], cs, vs, h, hr => by
    simp only [relAll] at hr; subst hr
    simp only [cellsAll, Option.some.injEq] at h; subst h
    exact ⟨by simp [relAll], by simp [ones], by simp⟩
  | d :: ds, cs, vs, h, hr => by
    simp only [relAll] at hr
    obtain ⟨v, r, rfl, hv, hr⟩ := hr
    simp only [cellsAll] at h
    split at h
    · rename_i c q hc hq
      split at h
      · rename_i hl
        cases h
        obtain ⟨h1, h2, h3⟩ := cellsAll_rel hq hr
        obtain ⟨h4, h5⟩ := rel_cells hv hc
        refine ⟨by simpa using relAll_append h4 h1, by simpa using ones_append h5 h2, fun u hu => ?_⟩
        rcases List.mem_cons.1 hu with rfl | hu
        · rw [rel_size_pos hv hc]; exact hl
        · exact h3 u hu
      · cases h
    · cases h

theorem flat_length {n : Nat} : ∀ {vs : List Value}, (∀ v ∈ vs, v.cells.size = n) → (vs.flatMap (·.cells.toList)).length = vs.length * n
  | [], _ => by simp
  | v :: vs, h => by
    simp only [List.flatMap_cons, List.length_append, Array.length_toList, List.length_cons, h v (by simp)]
    rw [flat_length (fun u hu => h u (List.mem_cons_of_mem _ hu)), Nat.add_mul]; omega
theorem flat_get {n : Nat} : ∀ {vs : List Value}, (∀ v ∈ vs, v.cells.size = n) → ∀ (i : Nat) (v : Value) (j : Nat) (c : Value), vs[i]? = some v → v.cells.toList[j]? = some c →
    (vs.flatMap (·.cells.toList))[i * n + j]? = some c
  | [], _, i, v, j, c, hi, _ => by simp at hi
  | u :: vs, h, 0, v, j, c, hi, hj => by
    simp at hi; subst hi
    simp only [List.flatMap_cons, Nat.zero_mul, Nat.zero_add]
    rw [List.getElem?_append_left]
    · exact hj
    · rcases Nat.lt_or_ge j u.cells.toList.length with h1 | h1
      · exact h1
      · rw [List.getElem?_eq_none h1] at hj; cases hj
  | u :: vs, h, i + 1, v, j, c, hi, hj => by
    have hu : u.cells.toList.length = n := by simpa using h u (by simp)
    simp only [List.flatMap_cons]
    rw [List.getElem?_append_right (by rw [hu, Nat.add_mul]; omega), hu]
    have : (i + 1) * n + j - n = i * n + j := by rw [Nat.add_mul]; omega
    rw [this]
    exact flat_get (fun x hx => h x (List.mem_cons_of_mem _ hx)) i v j c (by simpa using hi) hj

theorem fill_seq {n : Nat} : ∀ (vs : List Value) (k : Nat) (A : List Value), (∀ v ∈ vs, v.cells.size = n) → A.length = (k + vs.length) * n →
    Instr.fill (fun i => some (i * n, n)) A.toArray ((List.range' k vs.length).zip vs) = some ((A.take (k * n) ++ vs.flatMap (·.cells.toList)).toArray)
  | [], k, A, _, hl => by
    simp only [List.length_nil, Nat.add_zero] at hl
    simp [Instr.fill, ← hl]
  | v :: vs, k, A, h, hl => by
    have hv : v.cells.size = n := h v (by simp)
    simp only [List.length_cons] at hl ⊢
    simp only [List.range'_succ, List.zip_cons_cons, Instr.fill]
    have hle : k * n + n ≤ A.length := by rw [hl]; have : (k + (vs.length + 1)) * n = k * n + n + vs.length * n := by rw [Nat.add_mul, Nat.add_mul]; omega
                                          omega
    rw [if_neg (by simp [hv]; omega)]
    have hsp : (v.cells.zipIdx.foldl (fun cs x => cs.setIfInBounds (k * n + x.2) x.1) A.toArray) = (splice A (k * n) v.cells.toList).toArray := by
      apply Array.ext'
      have := foldl_splice (k * n) v.cells.toList 0 A.toArray
      simp only [Nat.add_zero] at this
      rw [← Array.foldl_toList, Array.toList_zipIdx]
      exact this
    have ih := fill_seq vs (k + 1) (splice A (k * n) v.cells.toList) (fun u hu => h u (List.mem_cons_of_mem _ hu)) (by rw [splice_length, hl]; congr 1; omega)
    have hgoal : (splice A (k * n) v.cells.toList).take ((k + 1) * n) = A.take (k * n) ++ v.cells.toList := by
      rw [splice_eq _ _ _ (by simp [hv]; omega)]
      have : (k + 1) * n = (A.take (k * n) ++ v.cells.toList).length := by
        simp [hv, Nat.add_mul]; omega
      rw [this, List.take_left]
    rw [hgoal] at ih
    simp only [List.flatMap_cons, ← List.append_assoc]
    rw [← ih]
    congr 1

theorem relParts_of {s : RS} (ρ : Operand → Value) (ev : Operand → D) (h : ∀ x, rel s (ev x) (ρ x)) : ∀ (parts : List (Nat × Operand)),
    relParts s (parts.map fun x => (x.1, ev x.2)) (parts.map fun x => (x.1, ρ x.2))
  | [] => rfl
  | _ :: ps => ⟨_, _, rfl, h _, relParts_of ρ ev h ps⟩
theorem relAll_map {s : RS} (ρ : Operand → Value) (ev : Operand → D) (h : ∀ x, rel s (ev x) (ρ x)) : ∀ (xs : List Operand), relAll s (xs.map ev) (xs.map ρ)
  | [] => relAll_nil
  | x :: xs => relAll_cons (h x) (relAll_map ρ ev h xs)

theorem hasZero_some {t : TypeId} (h : hasZero P t = true) : ∃ i z, P.info? t = some i ∧ i.zero = some z ∧ z.cells.size = sizeT P t := by
  unfold hasZero at h
  cases hi : P.info? t with
  | none => rw [hi] at h; simp at h
  | some i =>
    rw [hi] at h
    cases hz : i.zero with
    | none => simp [hz] at h
    | some z => simp [hz] at h; exact ⟨i, z, rfl, hz, h⟩

theorem run_buildSlice {t e : TypeId} {len : Nat} {vparts : Array (Nat × Value)} {vs : List Value} {w : World} (hu : P.underlying t = some (.slice e)) (hsz : sizeT P e ≠ 0)
    (hle : len * sizeT P e ≤ 2 ^ 24) (hz : len = 0 ∨ hasZero P e = true) (hp : vparts.toList = (List.range len).zip vs) (hl : vs.length = len) (hvs : ∀ v ∈ vs, v.cells.size = sizeT P e) :
    (Instr.buildSlice t len vparts).run P w = .ok (.slice (some ⟨w.heap.size, 0, none⟩) len len) (w.alloc (.cells (vs.flatMap (·.cells.toList)).toArray e)) := by
  obtain ⟨inf, hinf⟩ := info_of_size hsz
  have hfill : ∀ z : Array Value, Instr.fill (fun i => some (i * sizeT P e, sizeT P e)) ((Array.range (len * sizeT P e)).map fun x => z[x % z.size]!) vparts.toList = some (vs.flatMap (·.cells.toList)).toArray := by
    intro z
    have := fill_seq (n := sizeT P e) vs 0 ((Array.range (len * sizeT P e)).map fun x => z[x % z.size]!).toList hvs (by simp [hl])
    simp only [Nat.zero_mul, List.take_zero, List.nil_append, hl, Array.toArray_toList] at this
    rw [hp, List.range_eq_range']
    exact this
  have hle' : ¬ (len * sizeT P e > 2 ^ 24) := by omega
  by_cases h0 : len * sizeT P e = 0
  · simp only [Instr.buildSlice, Sem.run_bind, run_underlying hu, Result.andThen_ok, run_sizeOf hinf, if_neg hle', if_pos h0, Sem.run_pure, hfill #[], newRow, run_newObj]
    rfl
  · rcases hz with rfl | hz
    · exact (h0 (by simp)).elim
    · obtain ⟨i, z, hi, hz, _⟩ := hasZero_some hz
      have hzv : (zeroValue e).run P w = .ok z w := by simp [zeroValue, typeInfo, hi, hz]
      simp only [Instr.buildSlice, Sem.run_bind, run_underlying hu, Result.andThen_ok, run_sizeOf hinf, if_neg hle', if_neg h0, hzv, Sem.run_pure, hfill z.cells, newRow, run_newObj]
      rfl

theorem unD_sound {s : RS} {w : World} {op : UnOp} {x d : D} {v : Value} (hd : unD op x = some d) (hx : rel s x v) : ∃ u, (Op.unary op v).run P w = .ok u w ∧ rel s d u := by
  unfold unD at hd
  split at hd
  · split at hd <;> first | (cases hd; done) | skip
    cases hd
    simp only [rel] at hx; subst hx
    exact ⟨_, by simp [Op.unary]; rfl, by simp [rel]⟩
  · split at hd <;> first | (cases hd; done) | skip
    cases hd
    simp only [rel] at hx; subst hx
    exact ⟨_, by simp [Op.unary, Op.intArith]; rfl, by simp [rel]⟩
  · cases hd

theorem lenD_sound {s : RS} {w : World} (h : RH P s w) {t ty : TypeId} {x d : D} {v : Value} (hd : lenD P s.H t x = some d) (hx : rel s x v) : ∃ u, (Builtin.len_ #[t] ty #[v]).run P w = .ok u w ∧ rel s d u := by
  unfold lenD at hd
  split at hd
  · rename_i nn sz els
    simp only [Option.map_eq_some_iff] at hd
    obtain ⟨e, he, rfl⟩ := hd
    simp only [rel] at hx
    rcases hx with ⟨_, rfl, rfl⟩ | ⟨a, cap, vs, rfl, _⟩
    · exact ⟨_, by simp [Builtin.len_, run_underlying (elemT_some he), goInt]; rfl, by simp [rel]⟩
    · exact ⟨_, by simp [Builtin.len_, run_underlying (elemT_some he), goInt]; rfl, by simp [rel]⟩
  · simp only [Option.map_eq_some_iff] at hd
    obtain ⟨e, he, rfl⟩ := hd
    simp only [rel] at hx; subst hx
    exact ⟨_, by simp [Builtin.len_, run_underlying (elemT_some he), goInt]; rfl, by simp [rel]⟩
  · simp only [Option.map_eq_some_iff] at hd
    obtain ⟨e, he, rfl⟩ := hd
    simp only [rel] at hx
    obtain ⟨_, ⟨a, c, rfl⟩, _⟩ := hx
    exact ⟨_, by simp [Builtin.len_, run_underlying (elemT_some he), goInt]; rfl, by simp [rel]⟩
  · rename_i id
    split at hd
    · rename_i es hes
      simp only [Option.map_eq_some_iff] at hd
      obtain ⟨⟨k, e⟩, he, rfl⟩ := hd
      simp only [rel] at hx
      obtain ⟨_, _, hx⟩ := hx
      have hv := hx _ hes
      obtain ⟨r, ens, c, hk, hh, hr1, hr2⟩ := (h.obj _ _ hes).2
      rw [hk] at hv; subst hv
      have hl := relAll_length hr1
      simp only [List.length_map, Array.length_toList] at hl
      exact ⟨.int .i64 ens.size, by simp [Builtin.len_, run_underlying (mapT_some he), getObj, Sem.run, hh, goInt], by simp [rel, hl]⟩
    · cases hd
  · split at hd
    · rename_i hs
      cases hd
      simp only [rel] at hx; subst hx
      exact ⟨_, by simp [Builtin.len_, run_underlying (strT_some hs), goInt]; rfl, by simp [rel]⟩
    · cases hd
  · cases hd

end Go.Proofs.YtkhjpcmpljpmjaaGreatDoor.Abs
/-
  The abstract operations are sound, fourth part: binary operators, appends, make. No condition.
-/
namespace Go.Proofs.YtkhjpcmpljpmjaaGreatDoor.Abs
open Go.RowKit
variable {P : Program}

theorem bytes_eq (a b : ByteArray) : (a.toList == b.toList) = decide (a = b) := by
  rw [ByteArray.toList_eq, ByteArray.toList_eq]
  obtain ⟨⟨x⟩⟩ := a
  obtain ⟨⟨y⟩⟩ := b
  by_cases h : x = y
  · subst h; simp
  · have h1 : (x == y) = false := by simpa using h
    show (x == y) = _
    rw [h1]
    symm
    simp only [decide_eq_false_iff_not]
    intro e
    apply h
    injection e with e1
    injection e1

theorem eqD_sound (s : RS) : ∀ (n : Nat) (d : Nat) (t : TypeId) (x y : D) (vx vy : Value) (r : Bool), n ≤ d → eqD P n t x y = some r → rel s x vx → rel s y vy →
    ∀ w, (Op.equalIn d t vx vy).run P w = .ok r w := by
  intro n
  induction n with
  | zero => intro d t x y vx vy r _ h; simp [eqD] at h
  | succ n ih =>
    intro d t x y vx vy r hd h hx hy w
    obtain ⟨d, rfl⟩ : ∃ d', d = d' + 1 := ⟨d - 1, by omega⟩
    simp only [eqD] at h
    split at h
    · rename_i hu
      cases h; simp only [rel] at hx hy; subst hx; subst hy
      simp [Op.equalIn, run_underlying hu]
    · rename_i hu
      split at h
      · rename_i hk
        cases h; simp only [rel] at hx hy; subst hx; subst hy; subst hk
        simp [Op.equalIn, run_underlying hu]
      · cases h
    · rename_i hu
      cases h; simp only [rel] at hx hy; subst hx; subst hy
      simp [Op.equalIn, run_underlying hu, beq_toListBytes, bytes_eq]
    · rename_i fs xs ys hu
      split at h
      · rename_i hstood
        simp only [rel] at hx hy
        obtain ⟨vxs, rfl, hxr, hxo⟩ := hx
        obtain ⟨vys, rfl, hyr, hyo⟩ := hy
        have hfo : P.fieldsOf t = fs := by simp [Program.fieldsOf, hu]
        rw [run_equalIn_struct w d t _ _ (by rw [hfo]; exact hu) hstood, hfo]
        generalize fs.toList = l at h
        clear hu hfo
        induction l with
        | nil => simp only [eqFieldsD, Option.some.injEq] at h; subst h; simp [Op.eqFields]
        | cons f l ihl =>
          simp only [eqFieldsD] at h
          simp only [Op.eqFields]
          split at h
          · rename_i hne
            rw [if_pos hne]
            split at h
            · rename_i a b ha hb
              obtain ⟨ua, hua, _, _, hpa⟩ := takeD_val ha hxr hxo
              obtain ⟨ub, hub, _, _, hpb⟩ := takeD_val hb hyr hyo
              split at h
              · rename_i r' hr'
                have h1 := ih d f.type a b ua ub r' (by omega) hr' hua hub w
                simp only [Sem.run_bind, hpa, hpb, Result.andThen_ok, h1, Sem.run_ite]
                split at h
                · rename_i hrt
                  subst hrt
                  simp only [Bool.not_true, Bool.false_eq_true, if_false]
                  exact ihl h
                · rename_i hrf
                  cases h
                  have : r' = false := by simpa using hrf
                  subst this
                  simp
              · cases h
            · cases h
          · rename_i hne
            rw [if_neg hne]
            exact ihl h
      · cases h
    · cases h

theorem cmpInt_sound {op : BinOp} {a b : Int} {r : Bool} {w : World} (h : cmpInt op a b = some r) : (Op.intCmp op a b).run P w = .ok (.bool r) w := by
  unfold cmpInt at h
  split at h <;> first | (cases h; done) | skip
  all_goals cases h
  · simp only [Op.intCmp, Sem.run_pure]
    congr 2
  · simp only [Op.intCmp, Sem.run_pure]
    congr 2
    by_cases h : a = b <;> simp [h]
  · simp [Op.intCmp]
  · simp [Op.intCmp]
  · simp [Op.intCmp]
  · simp [Op.intCmp]

set_option maxHeartbeats 1000000 in
theorem binInt_sound {s : RS} {w : World} {op : BinOp} {t : TypeId} {x y : Operand} {k k' : IntKind} {a b : Int} {d : D} (hd : binD P op t (.int k a) (.int k' b) = some d) :
    ∃ u, (do eqGuard op t x y (.int k a) (.int k' b); binOp op t (.int k a) (.int k' b) : Sem Value).run P w = .ok u w ∧ rel s d u := by
  simp only [binD] at hd
  have hg : (eqGuard op t x y (.int k a) (.int k' b)).run P w = .ok () w := by
    unfold eqGuard; cases op <;> simp
  simp only [Sem.run_bind, hg, Result.andThen_ok]
  clear hg
  split at hd
  · split at hd <;> first | (cases hd; done) | skip
    rename_i hb
    cases hd
    exact ⟨_, by simp [binOp, Op.shift, Int.not_lt.2 hb]; rfl, by simp [rel]⟩
  · split at hd <;> first | (cases hd; done) | skip
    rename_i hb
    cases hd
    exact ⟨_, by simp [binOp, Op.shift, Int.not_lt.2 hb]; rfl, by simp [rel]⟩
  · split at hd <;> first | (cases hd; done) | skip
    rename_i hk; subst hk; cases hd
    exact ⟨_, by simp [binOp, Op.intArith]; rfl, by simp [rel]⟩
  · split at hd <;> first | (cases hd; done) | skip
    rename_i hk; subst hk; cases hd
    exact ⟨_, by simp [binOp, Op.intArith]; rfl, by simp [rel]⟩
  · split at hd <;> first | (cases hd; done) | skip
    rename_i hk; subst hk; cases hd
    exact ⟨_, by simp [binOp, Op.intArith]; rfl, by simp [rel]⟩
  · split at hd <;> first | (cases hd; done) | skip
    rename_i hk; obtain ⟨rfl, hb⟩ := hk; cases hd
    exact ⟨_, by simp [binOp, Op.intDiv, hb]; rfl, by simp [rel]⟩
  · split at hd <;> first | (cases hd; done) | skip
    rename_i hk; obtain ⟨rfl, hb⟩ := hk; cases hd
    exact ⟨_, by simp [binOp, Op.intDiv, hb]; rfl, by simp [rel]⟩
  · split at hd <;> first | (cases hd; done) | skip
    rename_i hk; subst hk
    simp only [bitsD, Option.map_some, Option.some.injEq] at hd; subst hd
    exact ⟨_, by simp [binOp, Op.intBits]; rfl, by simp [rel]⟩
  · split at hd <;> first | (cases hd; done) | skip
    rename_i hk; subst hk
    simp only [bitsD, Option.map_some, Option.some.injEq] at hd; subst hd
    exact ⟨_, by simp [binOp, Op.intBits]; rfl, by simp [rel]⟩
  · split at hd <;> first | (cases hd; done) | skip
    rename_i hk; subst hk
    simp only [bitsD, Option.map_some, Option.some.injEq] at hd; subst hd
    exact ⟨_, by simp [binOp, Op.intBits]; rfl, by simp [rel]⟩
  · split at hd <;> first | (cases hd; done) | skip
    rename_i hk; subst hk
    simp only [bitsD, Option.map_some, Option.some.injEq] at hd; subst hd
    exact ⟨_, by simp [binOp, Op.intBits]; rfl, by simp [rel]⟩
  · split at hd <;> first | (cases hd; done) | skip
    rename_i hk; subst hk
    simp only [Option.map_eq_some_iff] at hd
    obtain ⟨r, hr, rfl⟩ := hd
    have := cmpInt_sound (P := P) (w := w) hr
    refine ⟨.bool r, ?_, by simp [rel]⟩
    rw [← this]
    cases op <;> first | (simp [cmpInt] at hr; done) | simp [binOp]

theorem equal_succ (t : TypeId) (x y : Value) : Op.equal t x y = Op.equalIn (9999 + 1) t x y := rfl
theorem run_eql_bool {t : TypeId} (h : boolT P t = true) (a b : Bool) (w : World) : (binOp .eql t (.bool a) (.bool b)).run P w = .ok (.bool (a == b)) w := by
  show (do pure (Value.bool (← Op.equal t (.bool a) (.bool b))) : Sem Value).run P w = _
  rw [equal_succ]
  simp only [Sem.run_bind, run_equalIn_bool' w 9999 t a b (boolT_some h), Result.andThen_ok, Sem.run_pure]
theorem run_neq_bool {t : TypeId} (h : boolT P t = true) (a b : Bool) (w : World) : (binOp .neq t (.bool a) (.bool b)).run P w = .ok (.bool (a != b)) w := by
  show (do pure (Value.bool (!(← Op.equal t (.bool a) (.bool b)))) : Sem Value).run P w = _
  rw [equal_succ]
  simp only [Sem.run_bind, run_equalIn_bool' w 9999 t a b (boolT_some h), Result.andThen_ok, Sem.run_pure]
  rfl
theorem run_eql_of {t : TypeId} {x y : Value} {r : Bool} {w : World} (h : (Op.equal t x y).run P w = .ok r w) (hx : ∀ k n, x ≠ .int k n) (hx' : ∀ k n, x ≠ .float k n) (hx2 : ∀ k n m, x ≠ .complex k n m) (hx3 : ∀ z, x ≠ .string z) :
    (binOp .eql t x y).run P w = .ok (.bool r) w := by
  have : binOp .eql t x y = (do pure (Value.bool (← Op.equal t x y)) : Sem Value) := by
    unfold binOp
    cases x <;> first | rfl | (exfalso; first | exact hx _ _ rfl | exact hx' _ _ rfl | exact hx2 _ _ _ rfl | exact hx3 _ rfl)
  rw [this]
  simp only [Sem.run_bind, h, Result.andThen_ok, Sem.run_pure]
theorem run_neq_of {t : TypeId} {x y : Value} {r : Bool} {w : World} (h : (Op.equal t x y).run P w = .ok r w) (hx : ∀ k n, x ≠ .int k n) (hx' : ∀ k n, x ≠ .float k n) (hx2 : ∀ k n m, x ≠ .complex k n m) (hx3 : ∀ z, x ≠ .string z) :
    (binOp .neq t x y).run P w = .ok (.bool (!r)) w := by
  have : binOp .neq t x y = (do pure (Value.bool (!(← Op.equal t x y))) : Sem Value) := by
    unfold binOp
    cases x <;> first | rfl | (exfalso; first | exact hx _ _ rfl | exact hx' _ _ rfl | exact hx2 _ _ _ rfl | exact hx3 _ rfl)
  rw [this]
  simp only [Sem.run_bind, h, Result.andThen_ok, Sem.run_pure]
theorem run_guard_agg {op : BinOp} {t : TypeId} {x y : Operand} {a b : Array Value} {w : World} (h : P.eqGuardType P.depth t = false) : (eqGuard op t x y (.agg a) (.agg b)).run P w = .ok () w := by
  unfold eqGuard; cases op <;> simp [h]
theorem run_guard_slice {op : BinOp} {t : TypeId} {x y : Operand} {a : Option Addr} {n c : Nat} {v : Value} {w : World} : (eqGuard op t x y (.slice a n c) v).run P w = .ok () w := by
  unfold eqGuard; cases op <;> simp
theorem run_equalIn_nil (d : Nat) {t e : TypeId} (hu : P.underlying t = some (.slice e)) (a : Option Addr) (n c : Nat) (w : World) : (Op.equalIn (d + 1) t (.slice a n c) (.slice none 0 0)).run P w = .ok a.isNone w := by
  cases a <;> simp [Op.equalIn, run_underlying hu]
theorem run_equal_nil {t e : TypeId} (hu : P.underlying t = some (.slice e)) (a : Option Addr) (n c : Nat) (w : World) : (Op.equal t (.slice a n c) (.slice none 0 0)).run P w = .ok a.isNone w := by
  rw [equal_succ]
  exact run_equalIn_nil 9999 hu a n c w

set_option maxHeartbeats 1000000 in
theorem binD_sound {s : RS} {w : World} {op : BinOp} {t : TypeId} {x y : Operand} {dx dy d : D} {vx vy : Value} (hd : binD P op t dx dy = some d) (hx : rel s dx vx) (hy : rel s dy vy) :
    ∃ u, (do eqGuard op t x y vx vy; binOp op t vx vy : Sem Value).run P w = .ok u w ∧ rel s d u := by
  unfold binD at hd
  split at hd
  · rename_i k a k' b
    simp only [rel] at hx hy; subst hx; subst hy
    exact binInt_sound (by simpa only [binD] using hd)
  · rename_i a b
    simp only [rel] at hx hy; subst hx; subst hy
    have hg : (eqGuard op t x y (.bool a) (.bool b)).run P w = .ok () w := by
      unfold eqGuard; cases op <;> simp
    simp only [Sem.run_bind, hg, Result.andThen_ok]
    split at hd
    · split at hd <;> first | (cases hd; done) | skip
      rename_i hb; cases hd
      exact ⟨.bool (a == b), run_eql_bool hb a b w, by simp [rel]⟩
    · split at hd <;> first | (cases hd; done) | skip
      rename_i hb; cases hd
      exact ⟨.bool (a != b), run_neq_bool hb a b w, by simp [rel]⟩
    · cases hd
  · rename_i a b
    simp only [rel] at hx hy; subst hx; subst hy
    have hg : (eqGuard op t x y (.string a) (.string b)).run P w = .ok () w := by
      unfold eqGuard; cases op <;> simp
    simp only [Sem.run_bind, hg, Result.andThen_ok]
    split at hd
    · cases hd
      exact ⟨.bool (decide (a = b)), by simp only [binOp, Op.stringOp, bytes_eq]; rfl, by simp [rel]⟩
    · cases hd
      exact ⟨.bool (decide (a ≠ b)), by simp only [binOp, Op.stringOp, bytes_eq]; simp, by simp [rel]⟩
    · cases hd
      exact ⟨_, by simp only [binOp, Op.stringOp]; rfl, by simp [rel]⟩
    · split at hd
      · rename_i hle
        cases hd
        have hg2 : ¬ (((a.size + b.size : Nat) : Int) > IntKind.i64.max) := by
          have : IntKind.i64.max = 9223372036854775807 := rfl
          omega
        exact ⟨.string (a ++ b), by simp only [binOp, Op.stringOp, if_neg hg2]; rfl, by simp [rel]⟩
      · cases hd
    · cases hd
  · rename_i a b
    have hx' := hx
    have hy' := hy
    simp only [rel] at hx hy
    obtain ⟨vs, rfl, hr, ho⟩ := hx
    obtain ⟨us, rfl, hr', ho'⟩ := hy
    split at hd
    · split at hd <;> first | (cases hd; done) | skip
      rename_i hge
      simp only [Option.map_eq_some_iff] at hd
      obtain ⟨r, hr, rfl⟩ := hd
      have := eqD_sound (P := P) s 8 Op.maxDepth t _ _ _ _ r (by decide) hr hx' hy' w
      exact ⟨.bool r, by simp only [Sem.run_bind, run_guard_agg hge, Result.andThen_ok]; exact run_eql_of this (by simp) (by simp) (by simp) (by simp), by simp [rel]⟩
    · split at hd <;> first | (cases hd; done) | skip
      rename_i hge
      simp only [Option.map_eq_some_iff] at hd
      obtain ⟨r, hr, rfl⟩ := hd
      have := eqD_sound (P := P) s 8 Op.maxDepth t _ _ _ _ r (by decide) hr hx' hy' w
      exact ⟨.bool (!r), by simp only [Sem.run_bind, run_guard_agg hge, Result.andThen_ok]; exact run_neq_of this (by simp) (by simp) (by simp) (by simp), by simp [rel]⟩
    · cases hd
  · have hy0 : vy = .slice none 0 0 := by simpa only [rel] using hy
    subst hy0
    have key : ∀ (b : Bool), isNilD dx = some b → (dx = .nil ∨ ∃ nn sz els, dx = .rsl nn sz els) → ∀ e, elemT P t = some e →
        ∃ a n c, vx = .slice a n c ∧ (Op.equal t vx (.slice none 0 0)).run P w = .ok b w := by
      intro b hb hs e he
      have hu := elemT_some he
      rcases hs with rfl | ⟨nn, sz, els, rfl⟩
      · simp only [rel] at hx; subst hx
        simp only [isNilD, Option.some.injEq] at hb; subst hb
        exact ⟨_, _, _, rfl, run_equal_nil hu _ _ _ w⟩
      · have hbf : b = false := by
          cases nn with
          | true => simp only [isNilD, Option.some.injEq] at hb; exact hb.symm
          | false => cases els <;> simp only [isNilD, Option.some.injEq, reduceCtorEq] at hb; exact hb.symm
        subst hbf
        simp only [rel] at hx
        rcases hx with ⟨rfl, rfl, rfl⟩ | ⟨a, cap, vs, rfl, _⟩
        · simp [isNilD] at hb
        · exact ⟨_, _, _, rfl, run_equal_nil hu _ _ _ w⟩
    split at hd
    · rename_i e he
      split at hd
      · rename_i heq
        simp only [Option.map_eq_some_iff] at hd
        obtain ⟨b, hb, rfl⟩ := hd
        obtain ⟨a, n, c, rfl, hrun⟩ := key b hb (.inl rfl) e he
        exact ⟨.bool b, by simp only [Sem.run_bind, run_guard_slice, Result.andThen_ok]; exact run_eql_of hrun (by simp) (by simp) (by simp) (by simp), by simp [rel]⟩
      · simp only [Option.map_eq_some_iff] at hd
        obtain ⟨b, hb, rfl⟩ := hd
        obtain ⟨a, n, c, rfl, hrun⟩ := key b hb (.inr ⟨_, _, _, rfl⟩) e he
        exact ⟨.bool b, by simp only [Sem.run_bind, run_guard_slice, Result.andThen_ok]; exact run_eql_of hrun (by simp) (by simp) (by simp) (by simp), by simp [rel]⟩
      · cases hd
    · rename_i e he
      split at hd
      · simp only [Option.map_eq_some_iff] at hd
        obtain ⟨b, hb, rfl⟩ := hd
        obtain ⟨a, n, c, rfl, hrun⟩ := key b hb (.inl rfl) e he
        exact ⟨.bool (!b), by simp only [Sem.run_bind, run_guard_slice, Result.andThen_ok]; exact run_neq_of hrun (by simp) (by simp) (by simp) (by simp), by simp [rel]⟩
      · simp only [Option.map_eq_some_iff] at hd
        obtain ⟨b, hb, rfl⟩ := hd
        obtain ⟨a, n, c, rfl, hrun⟩ := key b hb (.inr ⟨_, _, _, rfl⟩) e he
        exact ⟨.bool (!b), by simp only [Sem.run_bind, run_guard_slice, Result.andThen_ok]; exact run_neq_of hrun (by simp) (by simp) (by simp) (by simp), by simp [rel]⟩
      · cases hd
    · cases hd
  · cases hd

end Go.Proofs.YtkhjpcmpljpmjaaGreatDoor.Abs
/-
  The abstract operations are sound, fifth part: appends, make, and every operation that calls no function. No condition.
-/
namespace Go.Proofs.YtkhjpcmpljpmjaaGreatDoor.Abs
open Go.RowKit
variable {P : Program}

theorem source_sound {s : RS} {w : World} (h : RH P s w) {e : TypeId} {n m : Nat} (hn : 0 < n) {y : D} {news : List D} {v : Value} (hs : sizeT P e = n)
    (hd : sourceD s.H e n y = some (m, news)) (hy : rel s y v) :
    (v = .slice none 0 0 ∧ m = 0 ∧ news = []) ∨ ∃ a c vs, v = .slice (some a) m c ∧ relAll s news vs ∧ ones vs ∧ vs.length = m * n ∧ ∀ j u, vs[j]? = some u → w.cell? (a.add j) = some u := by
  unfold sourceD at hd
  split at hd
  · rename_i nn sz els
    split at hd
    · rename_i hsz
      subst hsz
      simp only [Option.map_eq_some_iff] at hd
      obtain ⟨cs, hcs, heq⟩ := hd
      simp only [Prod.mk.injEq] at heq
      obtain ⟨rfl, rfl⟩ := heq
      simp only [rel] at hy
      rcases hy with ⟨_, rfl, rfl⟩ | ⟨a, cap, vs, rfl, _, _, hr, hlies⟩
      · simp only [cellsAll, Option.some.injEq] at hcs
        subst hcs
        exact .inl ⟨rfl, rfl, rfl⟩
      · obtain ⟨h1, h2, h3⟩ := cellsAll_rel hcs hr
        have hfl := flat_length h3
        refine .inr ⟨a, cap, _, rfl, h1, h2, by rw [hfl, relAll_length hr], fun j u hj => ?_⟩
        have hjl : j < vs.length * sz := by
          rcases Nat.lt_or_ge j (vs.length * sz) with h9 | h9
          · exact h9
          · rw [List.getElem?_eq_none (by rw [hfl]; exact h9)] at hj; cases hj
        have hi : j / sz < vs.length := (Nat.div_lt_iff_lt_mul hn).2 hjl
        have hv : vs[j / sz]? = some vs[j / sz] := List.getElem?_eq_getElem hi
        obtain ⟨hsz', hc⟩ := hlies _ _ hv
        have hjm : j % sz < vs[j / sz].cells.toList.length := by simp only [Array.length_toList, hsz']; exact Nat.mod_lt _ hn
        have hc' := List.getElem?_eq_getElem hjm
        have hflat := flat_get h3 _ _ _ _ hv hc'
        have hdm : j / sz * sz + j % sz = j := by rw [Nat.mul_comm]; exact Nat.div_add_mod j sz
        rw [hdm, hj] at hflat
        cases hflat
        have := hc _ _ hc'
        rw [addr_add_add, hdm] at this
        exact (h.mem _ _ this).1
    · cases hd
  · simp only [Option.some.injEq, Prod.mk.injEq] at hd
    obtain ⟨rfl, rfl⟩ := hd
    simp only [rel] at hy
    exact .inl ⟨hy, rfl, rfl⟩
  · rename_i id k
    split at hd
    · rename_i e' k' cs hid
      split at hd
      · rename_i hk
        obtain ⟨rfl, rfl⟩ := hk
        simp only [Option.some.injEq, Prod.mk.injEq] at hd
        obtain ⟨rfl, rfl⟩ := hd
        simp only [rel] at hy
        obtain ⟨_, _, hlive⟩ := hy
        have hv := (hlive _ _ _ hid).2 rfl
        subst hv
        obtain ⟨vs, ho, hr, h1, hcl, hcell⟩ := row_cells h hid
        have hsz := hs
        rcases ho.2 with ⟨hv0, hn0⟩ | ⟨g, cap, cur, hv0, _⟩
        · subst hn0
          have hx : vs = [] := List.eq_nil_of_length_eq_zero (by simpa using ho.1)
          subst hx
          have : cs = [] := List.eq_nil_of_length_eq_zero (by simpa using hcl)
          subst this
          exact .inl ⟨hv0, rfl, rfl⟩
        · refine .inr ⟨⟨g, 0, none⟩, cap, vs, hv0, hr, h1, by rw [ho.1, hsz], fun j u hj => ?_⟩
          rw [addr_add0, Nat.zero_add]
          exact hcell g (by rw [hv0]; rfl) j u hj
      · cases hd
    · cases hd
  · cases hd

theorem run_append_any {w : World} {t ty e : TypeId} {v y : Value} {n m : Nat} {xs vs : List Value} (hu : P.underlying t = some (.slice e)) (hpos : 0 < sizeT P e) (hz : hasZero P e = true)
    (hown : w.ownsRow 0 e (sizeT P e) v n xs) (hbytes : (n + m) * bytesT P e ≤ 140737488355328) (h63 : n + m ≤ maxLen)
    (hy : (y = .slice none 0 0 ∧ m = 0 ∧ vs = []) ∨ ∃ a c, y = .slice (some a) m c ∧ ones vs ∧ vs.length = m * sizeT P e ∧ ∀ j u, vs[j]? = some u → w.cell? (a.add j) = some u) :
    ∃ v' w', (Builtin.append_ #[t, t] ty #[v, y]).run P w = .ok v' w' ∧ w'.ownsRow 0 e (sizeT P e) v' (n + m) (xs ++ vs) ∧ w.grownBy w' v.ownBlock ∧
      (∀ b, blockOf v' = some b → blockOf v = some b ∨ w.heap.size ≤ b) ∧ (m = 0 → v' = v) := by
  obtain ⟨i, z, hi, hzz, hzs⟩ := hasZero_some hz
  have hsz : i.size = sizeT P e := by simp [sizeT, hi]
  have hby : i.bytes = bytesT P e := by simp [bytesT, hi]
  rcases hy with ⟨rfl, rfl, rfl⟩ | ⟨a, c, rfl, h1, hl, hc⟩
  · refine ⟨v, w, ?_, by simpa using hown, ⟨rfl, rfl, rfl, Nat.le_refl _, fun _ _ _ => rfl⟩, fun b hb => .inl hb, fun _ => rfl⟩
    rcases hown.2 with ⟨rfl, rfl⟩ | ⟨g, cap, cur, rfl, _, _, hnc, _⟩
    · simp [Builtin.append_, run_underlying hu, sizeOf, typeInfo, hi, Builtin.lenOf, Builtin.firstCells]
    · simp [Builtin.append_, run_underlying hu, sizeOf, typeInfo, hi, Builtin.lenOf, Builtin.firstCells, hnc, storeCells]
  · obtain ⟨v', w', hr, hown', hg, hnil⟩ := run_append_own (P := P) w 0 t ty e i z (sizeT P e) (bytesT P e) hu hi hzz hsz hby hzs hpos v n xs hown a m c vs hl hc h1 h63 hbytes (Nat.zero_le _)
    refine ⟨v', w', hr, hown', hg, ?_⟩
    have hsmall : n + m ≤ 9223372036854775807 := by simp only [maxLen] at h63; omega
    rcases hown.2 with ⟨rfl, rfl⟩ | ⟨g, cap, cur, rfl, _, hh, hnc, hcm, hcs, htake⟩
    · by_cases hm : m = 0
      · subst hm
        have := hnil.2 ⟨rfl, rfl⟩
        subst this
        exact ⟨fun b hb => .inl hb, fun _ => rfl⟩
      · have hr2 := run_append_nil (P := P) w t ty e i z hu hi hzz a m c vs (by rw [hl, hsz]) hc (by omega) (by omega) (by rw [hby]; simp only [Nat.zero_add] at hbytes; omega)
        rw [hr] at hr2
        cases hr2
        refine ⟨fun b hb => .inr ?_, fun h0 => (hm h0).elim⟩
        simp only [blockOf, Option.some.injEq] at hb; omega
    · by_cases hroom : n + m ≤ cap
      · have hfit : n * sizeT P e + vs.length ≤ cur.size := by rw [hl, hcs, ← Nat.add_mul]; exact Nat.mul_le_mul_right _ hroom
        have hr2 := run_append_room (P := P) w t ty e i hu hi g n cap cur hh a m c vs (by rw [hl, hsz]) hc h1 hroom (by rw [hsz]; exact hfit)
        rw [hr] at hr2
        cases hr2
        refine ⟨fun b hb => .inl hb, fun h0 => by subst h0; rfl⟩
      · have holds : ∀ j u, xs[j]? = some u → w.cell? ((⟨g, 0, none⟩ : Addr).add j) = some u := hown.cells (g := g) rfl
        have hr2 := run_append_grow (P := P) w t ty e i z hu hi hzz ⟨g, 0, none⟩ n cap xs (by rw [hown.1, hsz]) holds a m c vs (by rw [hl, hsz]) hc (by omega) (by omega) (by rw [hby]; exact growslice_fits (by omega) hbytes)
        rw [hr] at hr2
        cases hr2
        refine ⟨fun b hb => .inr ?_, fun h0 => by omega⟩
        simp only [blockOf, Option.some.injEq] at hb; omega

theorem own_eq_block {w : World} {b : Nat} {e : TypeId} {sz : Nat} {v : Value} {n : Nat} {xs : List Value} (h : w.ownsRow b e sz v n xs) : v.ownBlock = blockOf v := by
  rcases h.2 with ⟨rfl, _⟩ | ⟨g, cap, cur, rfl, _⟩ <;> rfl
theorem own_slice {w : World} {b : Nat} {e : TypeId} {sz : Nat} {v : Value} {n : Nat} {xs : List Value} (h : w.ownsRow b e sz v n xs) : ∃ a c, v = .slice a n c := by
  rcases h.2 with ⟨rfl, rfl⟩ | ⟨g, cap, cur, rfl, _⟩ <;> exact ⟨_, _, rfl⟩

theorem append_sound {s : RS} {w : World} (h : RH P s w) {t ty : TypeId} {x y d : D} {vx vy : Value} {H : HM} {nx : Nat} (hd : appendD P s.H s.nx t x y = some (d, H, nx)) (hx : rel s x vx) (hy : rel s y vy) :
    ∃ v s' w', (Builtin.append_ #[t, t] ty #[vx, vy]).run P w = .ok v w' ∧ Step s w s' w' ∧ RH P s' w' ∧ s'.H = H ∧ s'.nx = nx ∧ rel s' d v := by
  unfold appendD at hd
  cases he : elemT P t with
  | none => rw [he] at hd; cases hd
  | some e =>
    rw [he] at hd
    have hu := elemT_some he
    simp only at hd
    split at hd
    · rename_i hc
      obtain ⟨hpos, hz⟩ := hc
      simp only [Option.bind_eq_some_iff] at hd
      obtain ⟨⟨m, news⟩, hsrc, hd⟩ := hd
      have hs := source_sound h hpos rfl hsrc hy
      obtain ⟨us, hrel, hsv⟩ : ∃ us : List Value, relAll s news us ∧ ones us ∧ ((vy = .slice none 0 0 ∧ m = 0 ∧ us = []) ∨ ∃ a c, vy = .slice (some a) m c ∧ ones us ∧ us.length = m * sizeT P e ∧ ∀ j u, us[j]? = some u → w.cell? (a.add j) = some u) := by
        rcases hs with ⟨h1, h2, h3⟩ | ⟨a, c, us, h1, h2, h3, h4, h5⟩
        · exact ⟨[], by rw [h3]; exact relAll_nil, ones_nil, .inl ⟨h1, h2, rfl⟩⟩
        · exact ⟨us, h2, h3, .inr ⟨a, c, h1, h3, h4, h5⟩⟩
      obtain ⟨ho1, hsv⟩ := hsv
      simp only at hd
      split at hd
      · split at hd
        · rename_i hb
          simp only [Option.some.injEq, Prod.mk.injEq] at hd
          obtain ⟨rfl, rfl, rfl⟩ := hd
          simp only [rel] at hx; subst hx
          obtain ⟨v', w', hr, hown, hg, hbl, _⟩ := run_append_any (ty := ty) hu hpos hz (World.ownsRow_nil w 0 e (sizeT P e)) (by simpa using hb.1) (by simpa using hb.2) hsv
          simp only [Nat.zero_add, List.nil_append] at hown
          have hgrew : Grew w w' := ⟨hg.os, hg.tape, hg.output, hg.size, fun k hk => hg.block k hk (by simp [Value.ownBlock])⟩
          have hl := later_add h v' (.row e m news)
          obtain ⟨h1, h2⟩ := new_obj h hgrew (.row e m news) v' (fun b hb' => by
            rcases hbl b hb' with h3 | h3
            · cases h3
            · exact h3) ⟨us, hown, relAll.later hl _ _ hrel, ho1⟩
          refine ⟨v', _, w', hr, h1, h2, rfl, rfl, ?_⟩
          simp only [rel]
          obtain ⟨a, c, hvs⟩ := own_slice hown
          refine ⟨by simp [RS.add], ⟨a, c, hvs⟩, fun e' k cs hH => ?_⟩
          simp only [RS.add, updH, if_true, Option.some.injEq, HObj.row.injEq] at hH
          obtain ⟨_, rfl, _⟩ := hH
          exact ⟨Nat.le_refl _, fun _ => by simp [RS.add]⟩
        · cases hd
      · rename_i id n
        cases hid : s.H id with
        | none => rw [hid] at hd; cases hd
        | some o =>
          rw [hid] at hd
          cases o <;> first | (cases hd; done) | skip
          rename_i e' k cs
          simp only at hd
          split at hd
          · rename_i hb
            obtain ⟨rfl, rfl, hb1, hb2⟩ := hb
            simp only [Option.some.injEq, Prod.mk.injEq] at hd
            obtain ⟨rfl, rfl, rfl⟩ := hd
            simp only [rel] at hx
            obtain ⟨hidn, _, hlive⟩ := hx
            have hv := (hlive _ _ _ hid).2 rfl
            subst hv
            obtain ⟨vs, ho, hrv, hov, _, _⟩ := row_cells h hid
            obtain ⟨v', w', hr, hown, hg, hbl, hm0⟩ := run_append_any (ty := ty) hu hpos hz ho hb1 hb2 hsv
            obtain ⟨h1, h2⟩ := set_obj (w' := w') h id (.row e' n cs) (.row e' (n + m) (cs ++ news)) v' hid hg.os hg.tape hg.output hg.size
              (fun k hk hne => hg.block k hk (by rw [own_eq_block ho]; exact hne))
              (.inr ⟨n + m, cs ++ news, rfl, Nat.le_add_right _ _, fun hnm => hm0 (by omega)⟩)
              (fun b hb => hbl b hb)
              (fun hl => ⟨vs ++ us, hown, relAll.later hl _ _ (relAll_append hrv hrel), ones_append hov ho1⟩)
            refine ⟨v', _, w', hr, h1, h2, rfl, rfl, ?_⟩
            simp only [rel]
            obtain ⟨a, c, hvs⟩ := own_slice hown
            refine ⟨hidn, ⟨a, c, hvs⟩, fun e2 k2 cs2 hH => ?_⟩
            simp only [RS.set, updH, if_true, Option.some.injEq, HObj.row.injEq] at hH
            obtain ⟨_, rfl, _⟩ := hH
            exact ⟨Nat.le_refl _, fun _ => by simp [RS.set]⟩
          · cases hd
      · cases hd
    · cases hd

theorem flatten_rep_get {α : Type} (l : List α) : ∀ (k i : Nat), (List.replicate k l).flatten[i]? = if i < k * l.length then l[i % l.length]? else none
  | 0, i => by simp
  | k + 1, i => by
    simp only [List.replicate_succ, List.flatten_cons, List.getElem?_append]
    by_cases h : i < l.length
    · rw [if_pos h, if_pos (by rw [Nat.add_mul]; omega), Nat.mod_eq_of_lt h]
    · rw [if_neg h, flatten_rep_get l k (i - l.length)]
      by_cases h2 : i < (k + 1) * l.length
      · have h3 : i - l.length < k * l.length := by rw [Nat.add_mul] at h2; omega
        rw [if_pos h3, if_pos h2, ← Nat.mod_eq_sub_mod (by omega)]
      · have h3 : ¬ i - l.length < k * l.length := by rw [Nat.add_mul] at h2; omega
        rw [if_neg h3, if_neg h2]
theorem madeCells_toList (z : Array Value) (k : Nat) : (madeCells z (k * z.size)).toList = (List.replicate k z.toList).flatten := by
  apply List.ext_getElem?
  intro i
  rw [flatten_rep_get]
  simp only [madeCells, Array.toList_map, Array.toList_range, List.getElem?_map, Array.length_toList]
  by_cases h : i < k * z.size
  · have hz : 0 < z.size := by rcases Nat.eq_zero_or_pos z.size with h0 | h0; · rw [h0] at h; simp at h
                               · exact h0
    have hm := Nat.mod_lt i hz
    simp [h, hm]
  · simp [h]

theorem relAll_rep {s : RS} {zs : List D} {vs : List Value} (h : relAll s zs vs) : ∀ k, relAll s (List.replicate k zs).flatten (List.replicate k vs).flatten
  | 0 => by simp [relAll]
  | k + 1 => by simp only [List.replicate_succ, List.flatten_cons]; exact relAll_append h (relAll_rep h k)
theorem ones_rep {vs : List Value} (h : ones vs) : ∀ k, ones (List.replicate k vs).flatten
  | 0 => by simp [ones]
  | k + 1 => by simp only [List.replicate_succ, List.flatten_cons]; exact ones_append h (ones_rep h k)

theorem make_sound {s : RS} {w : World} (h : RH P s w) {t e : TypeId} {kl kc : IntKind} {l : Int} {zs : List D} (he : elemT P t = some e) (hz : zeroT P e = some zs)
    (h0 : 0 ≤ l) (hb : l.toNat * bytesT P e ≤ 140737488355328) (h63 : l ≤ 9223372036854775807) (_hpos : 0 < sizeT P e) :
    ∃ v s' w', (Instr.makeSlice t (.int kl l) (.int kc l)).run P w = .ok v w' ∧ Step s w s' w' ∧ RH P s' w' ∧ s'.H = updH s.H s.nx (some (.row e l.toNat (List.replicate l.toNat zs).flatten)) ∧ s'.nx = s.nx + 1 ∧ rel s' (.osl s.nx l.toNat) v := by
  have hu := elemT_some he
  unfold zeroT at hz
  simp only [Option.bind_eq_some_iff] at hz
  obtain ⟨z, ⟨i, hi, hzz⟩, hz⟩ := hz
  split at hz
  · rename_i hc
    obtain ⟨hc1, hc2⟩ := hc
    cases hz
    have hsz : i.size = sizeT P e := by simp [sizeT, hi]
    have hby : i.bytes = bytesT P e := by simp [bytesT, hi]
    have hbi : (i.bytes : Int) * l ≤ 281474976710656 := by
      have e1 : (i.bytes : Int) * l = ((l.toNat * bytesT P e : Nat) : Int) := by
        rw [hby, Int.natCast_mul, Int.toNat_of_nonneg h0, Int.mul_comm]
      rw [e1]; omega
    have hr := run_make (P := P) w t e i z hu hi hzz kl kc l l h0 (Int.le_refl _) hbi h63
    have hz1 : ones z.cells.toList := fun u hu => by simpa using List.all_eq_true.1 hc2 u hu
    have hcells : madeCells z.cells (l.toNat * i.size) = (List.replicate l.toNat z.cells.toList).flatten.toArray := by
      apply Array.ext'
      rw [hsz, ← hc1, madeCells_toList]
    rw [hcells] at hr
    have hlen : (List.replicate l.toNat z.cells.toList).flatten.length = l.toNat * sizeT P e := by
      simp [hc1]
    obtain ⟨h1, h2⟩ := new_obj h (Grew.alloc w (.cells (List.replicate l.toNat z.cells.toList).flatten.toArray e)) (.row e l.toNat (List.replicate l.toNat (z.cells.toList.map ofCell)).flatten)
      (.slice (some ⟨w.heap.size, 0, none⟩) l.toNat l.toNat) (fun b hb' => by simp only [blockOf, Option.some.injEq] at hb'; omega)
      ⟨(List.replicate l.toNat z.cells.toList).flatten, ⟨hlen, .inr ⟨w.heap.size, l.toNat, _, rfl, Nat.zero_le _, heap_alloc_new w _, Nat.le_refl _, by simp only [maxLen]; omega, by simpa using hlen, by
        rw [List.take_of_length_le (by rw [hlen]; exact Nat.le_refl _)]⟩⟩, relAll_rep (relAll_ofCells _ _) _, ones_rep hz1 _⟩
    refine ⟨_, _, _, hr, h1, h2, rfl, rfl, ?_⟩
    simp only [rel]
    refine ⟨by simp [RS.add], ⟨_, _, rfl⟩, fun e' k cs hH => ?_⟩
    simp only [RS.add, updH, if_true, Option.some.injEq, HObj.row.injEq] at hH
    obtain ⟨_, rfl, _⟩ := hH
    exact ⟨Nat.le_refl _, fun _ => by simp [RS.add]⟩
  · cases hz

end Go.Proofs.YtkhjpcmpljpmjaaGreatDoor.Abs
/-
  Rows that are given up, and appends to nothing: new memory that is only read. No condition.
-/
namespace Go.Proofs.YtkhjpcmpljpmjaaGreatDoor.Abs
open Go.RowKit
variable {P : Program}

mutual
theorem rel_pure {s s' : RS} (hm : ∀ a v, s.m a = some v → s'.m a = some v) : ∀ (d : D) (v : Value), pureD d = true → rel s d v → rel s' d v
  | .any, _, _, _ => by simp [rel]
  | .int k n, v, _, hr => by simpa [rel] using hr
  | .bool b, v, _, hr => by simpa [rel] using hr
  | .str x, v, _, hr => by simpa [rel] using hr
  | .agg ds, v, hp, hr => by
    simp only [pureD] at hp
    simp only [rel] at hr ⊢
    obtain ⟨vs, h1, h2, h3⟩ := hr
    exact ⟨vs, h1, relAll_pure hm ds vs hp h2, h3⟩
  | .tup ds, v, hp, hr => by
    simp only [pureD] at hp
    simp only [rel] at hr ⊢
    obtain ⟨vs, h1, h2⟩ := hr
    exact ⟨vs, h1, relAll_pure hm ds vs hp h2⟩
  | .nil, v, _, hr => by simpa [rel] using hr
  | .rsl nn sz els, v, hp, hr => by
    simp only [pureD] at hp
    simp only [rel] at hr ⊢
    rcases hr with hr | ⟨a, cap, vs, h1, h2, h3, h4, h5⟩
    · exact .inl hr
    · exact .inr ⟨a, cap, vs, h1, h2, h3, relAll_pure hm els vs hp h4, fun i u hu => ⟨(h5 i u hu).1, (h5 i u hu).2.later hm⟩⟩
  | .nptr, v, _, hr => by simpa [rel] using hr
  | .rptr d, v, hp, hr => by
    simp only [pureD] at hp
    simp only [rel] at hr ⊢
    obtain ⟨a, u, h1, h2, h3⟩ := hr
    exact ⟨a, u, h1, rel_pure hm d u hp h2, h3.later hm⟩
  | .nfun, v, _, hr => by simpa [rel] using hr
  | .fn f cap, v, hp, hr => by
    simp only [pureD] at hp
    simp only [rel] at hr ⊢
    obtain ⟨vs, h1, h2⟩ := hr
    exact ⟨vs, h1, relAll_pure hm cap vs hp h2⟩
  | .osl .., _, hp, _ => by cases hp
  | .ptr .., _, hp, _ => by cases hp
  | .eptr .., _, hp, _ => by cases hp
  | .mp _, _, hp, _ => by cases hp
  | .it _, _, hp, _ => by cases hp
  | .nmp, v, _, hr => by simpa [rel] using hr
  | .e0, v, _, hr => by simpa [rel] using hr
theorem relAll_pure {s s' : RS} (hm : ∀ a v, s.m a = some v → s'.m a = some v) : ∀ (ds : List D) (vs : List Value), pureD.pureL ds = true → relAll s ds vs → relAll s' ds vs
  | [], vs, _, hr => by simpa [relAll] using hr
  | d :: ds, vs, hp, hr => by
    simp only [pureD.pureL, Bool.and_eq_true] at hp
    simp only [relAll] at hr ⊢
    obtain ⟨v, r, h1, h2, h3⟩ := hr
    exact ⟨v, r, h1, rel_pure hm d v hp.1 h2, relAll_pure hm ds r hp.2 h3⟩
end
def groupV (ag : Bool) (sz : Nat) : Nat → List Value → List Value
  | 0, _ => []
  | n + 1, cs => (if ag = true then .agg (cs.take sz).toArray else (cs[0]?).getD undef) :: groupV ag sz n (cs.drop sz)

theorem groupV_length (ag : Bool) (sz : Nat) : ∀ (n : Nat) (vs : List Value), (groupV ag sz n vs).length = n
  | 0, _ => rfl
  | n + 1, vs => by simp [groupV, groupV_length ag sz n]
theorem groupV_get (ag : Bool) (sz : Nat) : ∀ (n : Nat) (vs : List Value) (i : Nat), i < n → (groupV ag sz n vs)[i]? = some (if ag = true then .agg ((vs.drop (i * sz)).take sz).toArray else (vs[i * sz]?).getD undef)
  | 0, _, i, h => by omega
  | n + 1, vs, 0, _ => by simp [groupV]
  | n + 1, vs, i + 1, h => by
    simp only [groupV, List.getElem?_cons_succ]
    rw [groupV_get ag sz n _ i (by omega)]
    have : sz + i * sz = (i + 1) * sz := by rw [Nat.add_mul]; omega
    simp only [List.drop_drop, List.getElem?_drop, this]
theorem relAll_group {s : RS} {ag : Bool} {sz : Nat} (hsz : ag = true ∨ (ag = false ∧ sz = 1)) : ∀ (n : Nat) (cs : List D) (vs : List Value), cs.length = n * sz → relAll s cs vs → ones vs → relAll s (groupD ag sz n cs) (groupV ag sz n vs)
  | 0, _, _, _, _, _ => relAll_nil
  | n + 1, cs, vs, hl, hr, h1 => by
    simp only [groupD, groupV]
    have hl' : (cs.drop sz).length = n * sz := by simp [hl, Nat.add_mul]
    refine relAll_cons ?_ (relAll_group hsz n _ _ hl' (relAll_drop sz hr) (ones_drop h1 _))
    rcases hsz with rfl | ⟨rfl, rfl⟩
    · simp only [if_true, rel]
      exact ⟨_, rfl, relAll_take sz hr, ones_take h1 _⟩
    · simp only [Bool.false_eq_true, if_false]
      cases cs with
      | nil => simp at hl
      | cons c cs =>
        simp only [relAll] at hr
        obtain ⟨v, r, rfl, h2, _⟩ := hr
        simpa using h2


theorem oneOK_or {e : TypeId} (h : oneOK P e = true) : isAggT P e = true ∨ (isAggT P e = false ∧ sizeT P e = 1) := by
  unfold oneOK at h
  simp only [Bool.or_eq_true, Bool.and_eq_true, Bool.not_eq_true', beq_iff_eq] at h
  exact h

noncomputable def RS.shut1 (s : RS) (w : World) (id : Nat) : RS :=
  { s with m := fun a => @ite _ (blockOf (s.κ id) = some a.block) (Classical.propDecidable _) (w.cell? a) (s.m a), H := updH s.H id none }
theorem shut1_state {s : RS} {w : World} (h : RH P s w) {id : Nat} (hid : s.H id ≠ none) : Step s w (s.shut1 w id) w ∧ RH P (s.shut1 w id) w := by
  have hlt := h.fresh hid
  have hown : ∀ a : Addr, blockOf (s.κ id) = some a.block → owned s a.block := fun a hb => ⟨id, hlt, hid, hb⟩
  have hmem : ∀ a v, s.m a = some v → (s.shut1 w id).m a = some v := by
    intro a v hm
    simp only [RS.shut1]
    rw [if_neg (fun hb => (h.mem a v hm).2 (hown a hb))]; exact hm
  have hHo : ∀ j, (s.shut1 w id).H j ≠ none → j ≠ id ∧ (s.shut1 w id).H j = s.H j := by
    intro j hj
    simp only [RS.shut1, updH] at hj ⊢
    by_cases hji : j = id
    · rw [if_pos hji] at hj; exact (hj rfl).elim
    · exact ⟨hji, if_neg hji⟩
  have hownL : ∀ k, owned (s.shut1 w id) k → owned s k := by
    rintro k ⟨j, hj, hH, hb⟩
    obtain ⟨_, e⟩ := hHo j hH
    exact ⟨j, hj, by rw [← e]; exact hH, hb⟩
  have hlater : Later s (s.shut1 w id) := by
    refine ⟨Nat.le_refl _, hmem, fun j _ => ?_⟩
    simp only [RS.shut1, updH]
    by_cases hji : j = id
    · subst hji
      rw [if_pos rfl]
      unfold objLe
      cases s.H j with
      | none => rfl
      | some o => cases o <;> exact .inl rfl
    · rw [if_neg hji]; exact objLe.refl _ _
  refine ⟨⟨rfl, rfl, rfl, Nat.le_refl _, Nat.le_refl _, hmem, fun a v hm => ?_, hlater.objs, fun _ _ _ => rfl, fun k ho => .inl (hownL k ho)⟩, ?_, ?_, ?_, fun g => rel.later hlater _ _ (h.glob g)⟩
  · simp only [RS.shut1] at hm
    by_cases hb : blockOf (s.κ id) = some a.block
    · exact .inr (.inr (hown a hb))
    · rw [if_neg hb] at hm; exact .inl hm
  · intro a v hm
    simp only [RS.shut1] at hm
    by_cases hb : blockOf (s.κ id) = some a.block
    · rw [if_pos hb] at hm
      refine ⟨hm, ?_⟩
      rintro ⟨j, hj, hH, hbj⟩
      obtain ⟨hji, e⟩ := hHo j hH
      rw [e] at hH
      have hbj' : blockOf (s.κ j) = some a.block := hbj
      exact h.apart j id hH hid hji (by rw [hbj']; simp) (by rw [hbj', hb])
    · rw [if_neg hb] at hm
      exact ⟨(h.mem a v hm).1, fun ho => (h.mem a v hm).2 (hownL _ ho)⟩
  · intro j o ho
    obtain ⟨hji, e⟩ := hHo j (by rw [ho]; simp)
    rw [e] at ho
    obtain ⟨h1, h2⟩ := h.obj j o ho
    exact ⟨h1, h2.mono hlater fun b hb' => rfl⟩
  · intro i j hi hj hij hbi
    obtain ⟨_, e1⟩ := hHo i hi
    obtain ⟨_, e2⟩ := hHo j hj
    rw [e1] at hi; rw [e2] at hj
    exact h.apart i j hi hj hij hbi

theorem shutR_sound {s : RS} {w : World} (h : RH P s w) {d d' : D} {v : Value} {H H' : HM} {nx nx' : Nat} (hH : s.H = H) (hn : s.nx = nx) (hr : rel s d v) (hs : shutR P (d, H, nx) = some (d', H', nx')) :
    ∃ s', Step s w s' w ∧ RH P s' w ∧ s'.H = H' ∧ s'.nx = nx' ∧ rel s' d' v ∧ ∀ id n, d = .osl id n → s' = s.shut1 w id := by
  subst hH; subst hn
  unfold shutR at hs
  split at hs
  · rename_i x id n H0 nx0 heq
    cases heq
    split at hs
    · rename_i e k cs hid
      split at hs
      · rename_i hc
        obtain ⟨rfl, ho, hp⟩ := hc
        have hsz := oneOK_or ho
        simp only [Option.some.injEq, Prod.mk.injEq] at hs
        obtain ⟨rfl, rfl, rfl⟩ := hs
        obtain ⟨g1, g2⟩ := shut1_state h (id := id) (by rw [hid]; simp)
        refine ⟨s.shut1 w id, g1, g2, rfl, rfl, ?_, fun _ _ h => by cases h; rfl⟩
        obtain ⟨vs, hown, hrv, hov, hcl, hcell⟩ := row_cells h hid
        simp only [rel] at hr
        obtain ⟨hidn, _, hlive⟩ := hr
        have hv := (hlive _ _ _ hid).2 rfl
        subst hv
        have hr' := relAll_pure g1.mem cs vs hp hrv
        have hg := relAll_group hsz n cs vs hcl hr' hov
        have hgl : (groupD (isAggT P e) (sizeT P e) n cs).length = n := by rw [← relAll_length hg]; exact groupV_length _ _ _ _
        simp only [rel]
        rcases hown.2 with ⟨hv0, hn0⟩ | ⟨g, cap, cur, hv0, _, hh, hnc, hcm, _⟩
        · subst hn0
          exact .inl ⟨trivial, by rw [groupD], hv0⟩
        · refine .inr ⟨⟨g, 0, none⟩, cap, _, by rw [hgl]; exact hv0, by rw [hgl]; exact hnc, hcm, hg, fun i u hu => ?_⟩
          have hi : i < n := by
            rcases Nat.lt_or_ge i n with h9 | h9
            · exact h9
            · rw [List.getElem?_eq_none (by rw [groupV_length]; exact h9)] at hu; cases hu
          rw [groupV_get _ _ _ _ _ hi] at hu
          simp only [Option.some.injEq] at hu
          subst hu
          have hvl : vs.length = n * sizeT P e := by rw [relAll_length hrv]; exact hcl
          have hmul : i * sizeT P e + sizeT P e ≤ n * sizeT P e := by
            have := Nat.mul_le_mul_right (sizeT P e) (show i + 1 ≤ n by omega)
            rw [Nat.add_mul] at this; omega
          have cellm : ∀ j c, vs[j]? = some c → (s.shut1 w id).m ⟨g, j, none⟩ = some c := by
            intro j c hj
            simp only [RS.shut1]
            rw [if_pos (by rw [hv0]; rfl)]
            exact hcell g (by rw [hv0]; rfl) j c hj
          rcases hsz with hag | ⟨hag, h1⟩
          · rw [if_pos hag]
            refine ⟨by simp [Value.cells]; omega, fun j c hj => ?_⟩
            rw [addr_add0, addr_add0, Nat.zero_add]
            simp only [Value.cells, List.getElem?_take, List.getElem?_drop] at hj
            split at hj
            · exact cellm _ _ hj
            · cases hj
          · rw [if_neg (by rw [hag]; simp)]
            rw [h1] at hmul hvl ⊢
            simp only [Nat.mul_one] at hmul hvl ⊢
            have hget : vs[i]? = some vs[i] := List.getElem?_eq_getElem (by omega)
            have h1u : (vs[i]).oneCell' = true := hov _ (List.getElem_mem _)
            rw [hget]
            simp only [Option.getD_some]
            rw [cells_of_one h1u]
            refine ⟨rfl, fun j c hj => ?_⟩
            cases j with
            | zero =>
              simp at hj; subst hj
              rw [addr_add0, addr_add0, Nat.zero_add]
              exact cellm _ _ hget
            | succ j => simp at hj
      · cases hs
    · cases hs
  · cases hs

theorem rel_new {s : RS} {w w' : World} {e : TypeId} {m cap : Nat} {news : List D} {us : List Value} (h : RH P s w) (hg : Grew w w') (ho : oneOK P e = true) (hlen : us.length = m * sizeT P e)
    (hr : relAll s news us) (hp : pureD.pureL news = true) (h1 : ones us) (hm : m ≤ cap) (hc : cap ≤ maxLen)
    (hcell : ∀ j u, us[j]? = some u → w'.cell? ⟨w.heap.size, j, none⟩ = some u) (nn : Bool) :
    rel (s.grow w w') (.rsl nn (sizeT P e) (groupD (isAggT P e) (sizeT P e) m news)) (.slice (some ⟨w.heap.size, 0, none⟩) m cap) := by
  have hsz := oneOK_or ho
  obtain ⟨g1, _⟩ := new_mem h hg
  have hr' := relAll_pure g1.mem news us hp hr
  have hnl : news.length = m * sizeT P e := by rw [← relAll_length hr]; exact hlen
  have hgv := relAll_group hsz m news us hnl hr' h1
  have hgl : (groupD (isAggT P e) (sizeT P e) m news).length = m := by rw [← relAll_length hgv]; exact groupV_length _ _ _ _
  simp only [rel]
  refine .inr ⟨⟨w.heap.size, 0, none⟩, cap, _, by rw [hgl], by rw [hgl]; exact hm, hc, hgv, fun i u hu => ?_⟩
  have hi : i < m := by
    rcases Nat.lt_or_ge i m with h9 | h9
    · exact h9
    · rw [List.getElem?_eq_none (by rw [groupV_length]; exact h9)] at hu; cases hu
  rw [groupV_get _ _ _ _ _ hi] at hu
  simp only [Option.some.injEq] at hu
  subst hu
  have hmul : i * sizeT P e + sizeT P e ≤ m * sizeT P e := by
    have := Nat.mul_le_mul_right (sizeT P e) (show i + 1 ≤ m by omega)
    rw [Nat.add_mul] at this; omega
  have cellm : ∀ j c, us[j]? = some c → (s.grow w w').m ⟨w.heap.size, j, none⟩ = some c := by
    intro j c hj
    simp only [RS.grow]
    rw [if_neg (by simp)]
    exact hcell j c hj
  rcases hsz with hag | ⟨hag, hone⟩
  · rw [if_pos hag]
    refine ⟨by simp [Value.cells]; omega, fun j c hj => ?_⟩
    rw [addr_add0, addr_add0, Nat.zero_add]
    simp only [Value.cells, List.getElem?_take, List.getElem?_drop] at hj
    split at hj
    · exact cellm _ _ hj
    · cases hj
  · rw [if_neg (by rw [hag]; simp)]
    rw [hone] at hmul hlen ⊢
    simp only [Nat.mul_one] at hmul hlen ⊢
    have hget : us[i]? = some us[i] := List.getElem?_eq_getElem (by omega)
    have h1u : (us[i]).oneCell' = true := h1 _ (List.getElem_mem _)
    rw [hget]
    simp only [Option.getD_some]
    rw [cells_of_one h1u]
    refine ⟨rfl, fun j c hj => ?_⟩
    cases j with
    | zero =>
      simp at hj; subst hj
      rw [addr_add0, addr_add0, Nat.zero_add]
      exact cellm _ _ hget
    | succ j => simp at hj

theorem appendE_sound {s : RS} {w : World} (h : RH P s w) {t ty : TypeId} {x y d : D} {vx vy : Value} (hd : appendE P s.H t x y = some d) (hx : rel s x vx) (hy : rel s y vy) :
    ∃ v s' w', (Builtin.append_ #[t, t] ty #[vx, vy]).run P w = .ok v w' ∧ Step s w s' w' ∧ RH P s' w' ∧ s'.H = s.H ∧ s'.nx = s.nx ∧ rel s' d v := by
  unfold appendE at hd
  cases he : elemT P t with
  | none => rw [he] at hd; cases hd
  | some e =>
    rw [he] at hd
    have hu := elemT_some he
    simp only at hd
    split at hd
    · rename_i hc
      obtain ⟨hpos, hz, hone⟩ := hc
      simp only [Option.bind_eq_some_iff] at hd
      obtain ⟨⟨m, news⟩, hsrc, hd⟩ := hd
      simp only at hd
      split at hd
      · rename_i hb
        obtain ⟨hb1, hb2, hp⟩ := hb
        have hs := source_sound h hpos rfl hsrc hy
        obtain ⟨i, z, hi, hzz, hzs⟩ := hasZero_some hz
        have hsz : i.size = sizeT P e := by simp [sizeT, hi]
        have hby : i.bytes = bytesT P e := by simp [bytesT, hi]
        have hsmall : m ≤ 9223372036854775807 := by simp only [maxLen] at hb2; omega
        have hcap : ∀ n, n ≤ maxLen → ∀ w0 : World, n ≤ grownCap w0 n 0 e ∧ grownCap w0 n 0 e ≤ maxLen := fun n hn w0 => ⟨by simp only [grownCap, Question.cut]; omega, grownCap_le_maxLen w0 n 0 e hn⟩
        split at hd
        · -- an empty literal
          cases hd
          simp only [rel] at hx
          obtain ⟨b, rfl⟩ := hx
          have stay : m = 0 → rel s (.rsl false (sizeT P e) (groupD (isAggT P e) (sizeT P e) m news)) (.slice (some b) 0 0) := by
            intro h0
            subst h0
            simp only [rel, groupD]
            exact .inr ⟨b, 0, [], rfl, Nat.le_refl _, by simp [maxLen], relAll_nil, fun i v hv => by simp at hv⟩
          rcases hs with ⟨rfl, rfl, rfl⟩ | ⟨a, c, us, rfl, hr, h1, hl, hcell⟩
          · refine ⟨.slice (some b) 0 0, s, w, ?_, Step.refl s w, h, rfl, rfl, stay rfl⟩
            simp [Builtin.append_, run_underlying hu, sizeOf, typeInfo, hi, Builtin.lenOf, Builtin.firstCells, storeCells]
          · by_cases h0 : m = 0
            · subst h0
              have hus : us = [] := List.eq_nil_of_length_eq_zero (by simpa using hl)
              subst hus
              refine ⟨.slice (some b) 0 0, s, w, ?_, Step.refl s w, h, rfl, rfl, stay rfl⟩
              have hf := run_firstCells_some (P := P) w i.size 0 a 0 c [] (by simp) (by simp)
              simp [Builtin.append_, run_underlying hu, sizeOf, typeInfo, hi, Builtin.lenOf, hf, storeCells]
            · have hrun := run_append_grow (P := P) w t ty e i z hu hi hzz b 0 0 [] (by simp) (by simp) a m c us (by rw [hl, hsz]) hcell (by omega) (by omega) (by rw [hby]; exact growslice_fits (by omega) (by simpa using hb1))
              simp only [Nat.zero_add] at hrun
              have hgrew : Grew w (w.drew.alloc (.cells ((([] : List Value).toArray ++ us.toArray) ++ Builtin.zeroCells z.cells (grownCap w m 0 e - m)) e)) := Grew.of_drew (Grew.alloc _ _)
              obtain ⟨g1, g2⟩ := new_mem h hgrew
              refine ⟨_, _, _, hrun, g1, g2, rfl, rfl, rel_new h hgrew hone hl hr hp h1 (hcap m hb2 w).1 (hcap m hb2 w).2 (fun j u hj => ?_) false⟩
              have hj' : j < us.length := (List.getElem?_eq_some_iff.1 hj).1
              rw [show (w.drew.alloc (.cells ((([] : List Value).toArray ++ us.toArray) ++ Builtin.zeroCells z.cells (grownCap w m 0 e - m)) e)).cell? ⟨w.heap.size, j, none⟩ = _ from World.cell?_alloc_new (w := w.drew) _ _ _]
              rw [Array.getElem?_append_left (by simpa using hj')]
              simpa using hj
        · -- nil
          cases hd
          simp only [rel] at hx
          subst hx
          have stay : m = 0 → news = [] → rel s (.rsl false (sizeT P e) (groupD (isAggT P e) (sizeT P e) m news)) (.slice none 0 0) := by
            intro h0 hn
            subst h0
            simp only [rel, groupD]
            simp
          rcases hs with ⟨rfl, rfl, rfl⟩ | ⟨a, c, us, rfl, hr, h1, hl, hcell⟩
          · refine ⟨.slice none 0 0, s, w, ?_, Step.refl s w, h, rfl, rfl, stay rfl rfl⟩
            simp [Builtin.append_, run_underlying hu, sizeOf, typeInfo, hi, Builtin.lenOf, Builtin.firstCells]
          · by_cases h0 : m = 0
            · subst h0
              have hus : us = [] := List.eq_nil_of_length_eq_zero (by simpa using hl)
              subst hus
              have hn0 : news = [] := List.eq_nil_of_length_eq_zero (by rw [← relAll_length hr]; rfl)
              refine ⟨.slice none 0 0, s, w, ?_, Step.refl s w, h, rfl, rfl, stay rfl hn0⟩
              have hf := run_firstCells_some (P := P) w i.size 0 a 0 c [] (by simp) (by simp)
              simp [Builtin.append_, run_underlying hu, sizeOf, typeInfo, hi, Builtin.lenOf, hf]
            · have hrun := run_append_nil (P := P) w t ty e i z hu hi hzz a m c us (by rw [hl, hsz]) hcell (by omega) (by omega) (by rw [hby]; omega)
              have hgrew : Grew w (w.drew.alloc (.cells (us.toArray ++ Builtin.zeroCells z.cells (grownCap w m 0 e - m)) e)) := Grew.of_drew (Grew.alloc _ _)
              obtain ⟨g1, g2⟩ := new_mem h hgrew
              refine ⟨_, _, _, hrun, g1, g2, rfl, rfl, rel_new h hgrew hone hl hr hp h1 (hcap m hb2 w).1 (hcap m hb2 w).2 (fun j u hj => ?_) false⟩
              have hj' : j < us.length := (List.getElem?_eq_some_iff.1 hj).1
              rw [show (w.drew.alloc (.cells (us.toArray ++ Builtin.zeroCells z.cells (grownCap w m 0 e - m)) e)).cell? ⟨w.heap.size, j, none⟩ = _ from World.cell?_alloc_new (w := w.drew) _ _ _]
              rw [Array.getElem?_append_left (by simpa using hj')]
              simpa using hj
        · cases hd
      · cases hd
    · cases hd
end Go.Proofs.YtkhjpcmpljpmjaaGreatDoor.Abs
/-
  Maps: made, looked into, updated. No condition.
-/
namespace Go.Proofs.YtkhjpcmpljpmjaaGreatDoor.Abs
open Go.RowKit
variable {P : Program}

theorem setVal_keys : ∀ (es : List (D × D)) (i : Nat) (x : D), (setVal es i x).map (·.1) = es.map (·.1)
  | [], _, _ => rfl
  | _ :: _, 0, _ => rfl
  | e :: es, i + 1, x => by simp [setVal, setVal_keys es i x]
theorem setVal_vals : ∀ (es : List (D × D)) (i : Nat) (x : D), (setVal es i x).map (·.2) = (es.map (·.2)).set i x
  | [], _, _ => rfl
  | _ :: _, 0, _ => rfl
  | e :: es, i + 1, x => by simp [setVal, setVal_vals es i x]

def FoundAt (s : RS) (l : List MapEntry) (i0 : Nat) : Option (Nat × D) → Option (Nat × Value) → Prop
  | none, o => o = none
  | some (i, d), o => ∃ e, l[i]? = some e ∧ o = some (i0 + i, e.val) ∧ rel s d e.val

theorem findAsking_sound {s : RS} {w : World} {kt : TypeId} {k : D} {kv : Value} (hk : rel s k kv) : ∀ (es : List (D × D)) (l : List MapEntry) (i0 : Nat) (r : Option (Nat × D)), findD P kt k es = some r →
    relAll s (es.map (·.1)) (l.map (·.key)) → relAll s (es.map (·.2)) (l.map (·.val)) → ∃ o, (Instr.findAsking kt kv l i0).run P w = .ok o w ∧ FoundAt s l i0 r o
  | [], l, i0, r, h, h1, h2 => by
    simp only [findD, Option.some.injEq] at h; subst h
    simp only [List.map_nil, relAll, List.map_eq_nil_iff] at h1; subst h1
    exact ⟨none, rfl, rfl⟩
  | (k', d) :: es, l, i0, r, h, h1, h2 => by
    cases l with
    | nil => simp [relAll] at h1
    | cons e l =>
      simp only [List.map_cons, relAll] at h1 h2
      obtain ⟨v1, r1, e1, hk1, hr1⟩ := h1
      obtain ⟨v2, r2, e2, hd2, hr2⟩ := h2
      simp only [List.cons.injEq] at e1 e2
      obtain ⟨rfl, rfl⟩ := e1
      obtain ⟨rfl, rfl⟩ := e2
      simp only [findD] at h
      have heq : ∀ b, eqK P kt k k' = some b → (Op.equal kt kv e.key).run P w = .ok b w := fun b hb => by
        unfold eqK at hb
        split at hb
        · exact eqD_sound s 8 10000 kt k k' kv e.key b (by decide) hb hk hk1 w
        · cases hb
      cases hc : eqK P kt k k' with
      | none => rw [hc] at h; cases h
      | some b =>
        rw [hc] at h
        cases b with
        | true =>
          simp only [Option.some.injEq] at h; subst h
          refine ⟨some (i0, e.val), ?_, e, rfl, rfl, hd2⟩
          simp only [Instr.findAsking, Sem.run_bind, heq _ hc, Result.andThen_ok, if_true, Sem.run_pure]
        | false =>
          simp only [Option.map_eq_some_iff] at h
          obtain ⟨r', h', rfl⟩ := h
          obtain ⟨o, ho, hf⟩ := findAsking_sound hk es l (i0 + 1) r' h' hr1 hr2
          refine ⟨o, ?_, ?_⟩
          · simp only [Instr.findAsking, Sem.run_bind, heq _ hc, Result.andThen_ok, Bool.false_eq_true, if_false]
            exact ho
          · cases r' with
            | none => exact hf
            | some q =>
              obtain ⟨i, dd⟩ := q
              obtain ⟨e', g1, g2, g3⟩ := hf
              exact ⟨e', by simpa using g1, by rw [g2]; congr 2; omega, g3⟩

theorem findNow_sound {s : RS} {kt : TypeId} {td : TypeDesc} (hu : P.underlying kt = some td) (htd : (∃ k, td = .int k) ∨ td = .string ∨ td = .bool) {k : D} {kv : Value} (hk : rel s k kv) : ∀ (es : List (D × D)) (l : List MapEntry) (i0 : Nat) (r : Option (Nat × D)), findD P kt k es = some r →
    relAll s (es.map (·.1)) (l.map (·.key)) → relAll s (es.map (·.2)) (l.map (·.val)) → ∃ o, Instr.findNow td kv l i0 = some o ∧ FoundAt s l i0 r o
  | [], l, i0, r, h, h1, h2 => by
    simp only [findD, Option.some.injEq] at h; subst h
    simp only [List.map_nil, relAll, List.map_eq_nil_iff] at h1; subst h1
    exact ⟨none, rfl, rfl⟩
  | (k', d) :: es, l, i0, r, h, h1, h2 => by
    cases l with
    | nil => simp [relAll] at h1
    | cons e l =>
      simp only [List.map_cons, relAll] at h1 h2
      obtain ⟨v1, r1, e1, hk1, hr1⟩ := h1
      obtain ⟨v2, r2, e2, hd2, hr2⟩ := h2
      simp only [List.cons.injEq] at e1 e2
      obtain ⟨rfl, rfl⟩ := e1
      obtain ⟨rfl, rfl⟩ := e2
      simp only [findD] at h
      have heq : ∀ b, eqK P kt k k' = some b → Instr.sameNow td kv e.key = some b := fun b hb => by
        unfold eqK at hb
        split at hb
        · simp only [eqD, hu] at hb
          rcases htd with ⟨kk, rfl⟩ | rfl | rfl
          · split at hb <;> first | (cases hb; done) | skip
            all_goals simp_all [rel, Instr.sameNow]
          · split at hb <;> first | (cases hb; done) | skip
            all_goals simp_all [rel, Instr.sameNow]
            all_goals (rw [← hb, Bool.eq_iff_iff, decide_eq_true_iff, MapKept.bytes_beq])
          · split at hb <;> first | (cases hb; done) | skip
            all_goals simp_all [rel, Instr.sameNow]
        · cases hb
      cases hc : eqK P kt k k' with
      | none => rw [hc] at h; cases h
      | some b =>
        rw [hc] at h
        cases b with
        | true =>
          simp only [Option.some.injEq] at h; subst h
          refine ⟨some (i0, e.val), ?_, e, rfl, rfl, hd2⟩
          simp only [Instr.findNow, heq _ hc]
        | false =>
          simp only [Option.map_eq_some_iff] at h
          obtain ⟨r', h', rfl⟩ := h
          obtain ⟨o, ho, hf⟩ := findNow_sound hu htd hk es l (i0 + 1) r' h' hr1 hr2
          refine ⟨o, ?_, ?_⟩
          · simp only [Instr.findNow, heq _ hc]
            exact ho
          · cases r' with
            | none => exact hf
            | some q =>
              obtain ⟨i, dd⟩ := q
              obtain ⟨e', g1, g2, g3⟩ := hf
              exact ⟨e', by simpa using g1, by rw [g2]; congr 2; omega, g3⟩

theorem keyT_cases {kt : TypeId} (h : keyT P kt = true) : ∃ td, P.underlying kt = some td ∧ (((∃ k, td = .int k) ∨ td = .string ∨ td = .bool) ∨ ∃ fs, td = .struct fs ∧ tilesK P fs.toList 0 (sizeT P kt) = true) := by
  unfold keyT at h
  split at h
  · exact ⟨_, ‹_›, .inl (.inl ⟨_, rfl⟩)⟩
  · exact ⟨_, ‹_›, .inl (.inr (.inl rfl))⟩
  · exact ⟨_, ‹_›, .inl (.inr (.inr rfl))⟩
  · exact ⟨_, ‹_›, .inr ⟨_, rfl, h⟩⟩
  · cases h

theorem findKey_sound {s : RS} {w : World} {kt : TypeId} {k : D} {kv : Value} (ht : keyT P kt = true) (hk : rel s k kv) {es : List (D × D)} {l : List MapEntry} {r : Option (Nat × D)} (h : findD P kt k es = some r)
    (h1 : relAll s (es.map (·.1)) (l.map (·.key))) (h2 : relAll s (es.map (·.2)) (l.map (·.val))) : ∃ o, (Instr.findKey kt kv l).run P w = .ok o w ∧ FoundAt s l 0 r o := by
  obtain ⟨td, hu, hc | ⟨fs, rfl, _⟩⟩ := keyT_cases ht
  · obtain ⟨o, ho, hf⟩ := findNow_sound hu hc hk es l 0 r h h1 h2
    exact ⟨o, by simp [Instr.findKey, run_underlying hu, ho], hf⟩
  · obtain ⟨o, ho, hf⟩ := findAsking_sound (w := w) hk es l 0 r h h1 h2
    refine ⟨o, ?_, hf⟩
    cases l with
    | nil => simpa [Instr.findKey, run_underlying hu, Instr.findNow, Instr.findAsking] using ho
    | cons e l =>
      have : Instr.findNow (.struct fs) kv (e :: l) 0 = none := by simp [Instr.findNow, Instr.sameNow]
      simp only [Instr.findKey, Sem.run_bind, run_underlying hu, Result.andThen_ok, this]
      exact ho

def leafV (u : Value) : Prop := (∃ k n, u = .int k n) ∨ (∃ x, u = .string x) ∨ ∃ b, u = .bool b
theorem leaf_same {u : Value} (h : leafV u) (n : Nat) : Instr.sameBits n u u = true := by
  rcases h with ⟨k, m, rfl⟩ | ⟨x, rfl⟩ | ⟨b, rfl⟩
  · simp [Instr.sameBits]
  · simp only [Instr.sameBits]; exact (MapKept.bytes_beq x x).2 rfl
  · simp [Instr.sameBits]
theorem leafT_cases {t : TypeId} (h : leafT P t = true) : ∃ td, P.underlying t = some td ∧ ((∃ k, td = .int k) ∨ td = .string ∨ td = .bool) := by
  unfold leafT at h
  split at h
  · exact ⟨_, ‹_›, .inl ⟨_, rfl⟩⟩
  · exact ⟨_, ‹_›, .inr (.inl rfl)⟩
  · exact ⟨_, ‹_›, .inr (.inr rfl)⟩
  · cases h
theorem leafT_one {t : TypeId} (h : leafT P t = true) : isAggT P t = false ∧ isOneT P t = true := by
  obtain ⟨td, hu, ⟨k, rfl⟩ | rfl | rfl⟩ := leafT_cases h <;> simp [isAggT, isOneT, hu]
theorem eq_leaf {s : RS} {t : TypeId} {d : Nat} {a b : D} {u v : Value} (ht : leafT P t = true) (h : eqD P (d + 1) t a b = some true) (ha : rel s a u) (hb : rel s b v) : u = v ∧ leafV u := by
  obtain ⟨td, hu, hc⟩ := leafT_cases ht
  simp only [eqD, hu] at h
  rcases hc with ⟨kk, rfl⟩ | rfl | rfl
  · split at h <;> first | (cases h; done) | skip
    all_goals simp_all [rel, leafV]
  · split at h <;> first | (cases h; done) | skip
    all_goals simp_all [rel, leafV]
  · split at h <;> first | (cases h; done) | skip
    all_goals simp_all [rel, leafV]
theorem takeD_leaf {t : TypeId} (h : leafT P t = true) (cs : List D) (off : Nat) : takeD P t cs off = cs[off]? := by
  obtain ⟨h1, h2⟩ := leafT_one h
  unfold takeD
  rw [h1, h2]; rfl
theorem tiles_same {s : RS} {n d : Nat} {xs ys : List D} {vs us : List Value} (hx : relAll s xs vs) (hy : relAll s ys us) : ∀ (l : List Field) (off : Nat), tilesK P l off n = true → eqFieldsD (eqD P (d + 1)) P xs ys l = some true →
    ∀ j, off ≤ j → j < n → ∃ u, vs[j]? = some u ∧ us[j]? = some u ∧ leafV u
  | [], off, ht, _, j, h1, h2 => by
    simp only [tilesK, beq_iff_eq] at ht; omega
  | f :: l, off, ht, he, j, h1, h2 => by
    simp only [tilesK, Bool.and_eq_true, beq_iff_eq, decide_eq_true_eq] at ht
    obtain ⟨⟨⟨⟨h3, h4⟩, h5⟩, _⟩, h7⟩ := ht
    simp only [eqFieldsD] at he
    rw [if_pos h4, takeD_leaf h5, takeD_leaf h5, h3] at he
    cases hxo : xs[off]? with
    | none => rw [hxo] at he; cases he
    | some a =>
      cases hyo : ys[off]? with
      | none => rw [hxo, hyo] at he; cases he
      | some b =>
        rw [hxo, hyo] at he
        simp only at he
        cases hab : eqD P (d + 1) f.type a b with
        | none => rw [hab] at he; cases he
        | some r =>
          rw [hab] at he
          simp only at he
          split at he
          · rename_i hr
            subst hr
            by_cases hj : j = off
            · subst hj
              obtain ⟨u, hu, hru⟩ := relAll_get hx _ _ hxo
              obtain ⟨v, hv, hrv⟩ := relAll_get hy _ _ hyo
              obtain ⟨e, hl⟩ := eq_leaf h5 hab hru hrv
              exact ⟨u, hu, by rw [e]; exact hv, hl⟩
            · exact tiles_same hx hy l (off + 1) h7 he j (by omega) h2
          · cases he
theorem fits_len {t : TypeId} {ds : List D} (h : fitsD P t (.agg ds) = true) : ds.length = sizeT P t := by
  simp only [fitsD, Bool.and_eq_true, beq_iff_eq] at h; exact h.2
theorem eqD_two {d : Nat} {t : TypeId} {x y : D} : eqD P (d + 2) t x y = match P.underlying t, x, y with
    | some .bool, .bool a, .bool b => some (a == b)
    | some (.int _), .int k a, .int k' b => if k = k' then some (a == b) else none
    | some .string, .str a, .str b => some (decide (a = b))
    | some (.struct fs), .agg xs, .agg ys => if P.stoodInHeld t = false then eqFieldsD (eqD P (d + 1)) P xs ys fs.toList else none
    | _, _, _ => none := rfl
theorem same_key0 {s : RS} {kt : TypeId} {k k' : D} {v v' : Value} (ht : keyT P kt = true) (d : Nat) (h : eqD P (d + 2) kt k k' = some true) (hfit : fitsD P kt k = true ∧ fitsD P kt k' = true) (hk : rel s k v) (hk' : rel s k' v') : v = v' ∧ Instr.sameBits 10000 v v = true := by
  · obtain ⟨td, hu, hc | ⟨fs, rfl, htl⟩⟩ := keyT_cases ht
    · have hl : leafT P kt = true := by
        unfold leafT; rw [hu]
        rcases hc with ⟨kk, rfl⟩ | rfl | rfl <;> rfl
      obtain ⟨e, hlv⟩ := eq_leaf hl h hk hk'
      exact ⟨e, leaf_same hlv _⟩
    · simp only [eqD_two, hu] at h
      split at h <;> first | (cases h; done) | skip
      all_goals first | (simp only [reduceCtorEq, Option.some.injEq] at *; done) | skip
      rename_i fs' xs ys hfs
      split at h
      · simp only [Option.some.injEq, TypeDesc.struct.injEq] at hfs
        subst hfs
        simp only [rel] at hk hk'
        obtain ⟨vs, rfl, hr1, _⟩ := hk
        obtain ⟨us, rfl, hr2, _⟩ := hk'
        have l1 := fits_len hfit.1
        have l2 := fits_len hfit.2
        have m1 := relAll_length hr1
        have m2 := relAll_length hr2
        have key := tiles_same hr1 hr2 fs.toList 0 htl h
        have e : vs = us := by
          apply List.ext_getElem?
          intro j
          by_cases hj : j < sizeT P kt
          · obtain ⟨u, h1, h2, _⟩ := key j (Nat.zero_le _) hj
            rw [h1, h2]
          · rw [List.getElem?_eq_none (by omega), List.getElem?_eq_none (by omega)]
        refine ⟨by rw [e], ?_⟩
        have hall : ∀ x ∈ vs, leafV x := by
          intro x hx
          obtain ⟨j, hj, rfl⟩ := List.mem_iff_getElem.1 hx
          obtain ⟨u, h1, _, h3⟩ := key j (Nat.zero_le _) (by omega)
          rw [List.getElem?_eq_getElem hj, Option.some.injEq] at h1
          rw [h1]; exact h3
        show Instr.sameBits (9999 + 1) _ _ = true
        simp only [Instr.sameBits, beq_self_eq_true, Bool.true_and, List.all_eq_true]
        rintro ⟨x, y⟩ hxy
        have hxy' := hxy
        rw [List.mem_iff_getElem] at hxy
        obtain ⟨j, hj, he⟩ := hxy
        rw [List.getElem_zip, Prod.mk.injEq] at he
        obtain ⟨rfl, rfl⟩ := he
        exact leaf_same (hall _ (by simp)) _
      · cases h
theorem same_key {s : RS} {kt : TypeId} {k k' : D} {v v' : Value} (ht : keyT P kt = true) (h : eqK P kt k k' = some true) (hk : rel s k v) (hk' : rel s k' v') : v = v' ∧ Instr.sameBits 10000 v v = true := by
  unfold eqK at h
  split at h
  · rename_i hfit
    exact same_key0 ht 6 h hfit hk hk'
  · cases h

theorem run_checkLeaf {w : World} {t : TypeId} {v : Value} (h : leafT P t = true) (e : Bool) (n : Nat) : (Instr.checkKey e (n + 1) t v).run P w = .ok () w := by
  obtain ⟨td, hu, hc⟩ := leafT_cases h
  unfold Instr.checkKey
  simp only [Sem.run_bind, run_underlying hu, Result.andThen_ok]
  rcases hc with ⟨kk, rfl⟩ | rfl | rfl <;> cases v <;> rfl
theorem run_checkFields {s : RS} {w : World} {n k : Nat} {xs : List D} {vs : List Value} (hr : relAll s xs vs) (h1 : ones vs) (e : Bool) (hn : xs.length = n) : ∀ (l : List Field) (off : Nat), tilesK P l off n = true →
    (forIn l PUnit.unit fun f (_ : PUnit) => if f.name ≠ "_" then (do
      let x ← part f.type vs.toArray f.offset
      Instr.checkKey e (k + 1) f.type x
      pure (ForInStep.yield PUnit.unit)) else pure (ForInStep.yield PUnit.unit) : Sem PUnit).run P w = .ok PUnit.unit w
  | [], _, _ => by simp
  | f :: l, off, ht => by
    simp only [tilesK, Bool.and_eq_true, beq_iff_eq, decide_eq_true_eq] at ht
    obtain ⟨⟨⟨⟨h3, h4⟩, h5⟩, h6⟩, h7⟩ := ht
    have hlt : off < n := by
      have key : ∀ (l : List Field) (off : Nat), tilesK P l off n = true → off ≤ n := by
        intro l
        induction l with
        | nil => intro off h; simp only [tilesK, beq_iff_eq] at h; omega
        | cons g l ih =>
          intro off h
          simp only [tilesK, Bool.and_eq_true, beq_iff_eq, decide_eq_true_eq] at h
          have := ih _ h.2
          omega
      have := key l (off + 1) h7
      omega
    obtain ⟨u, _, _, _, hp⟩ := takeD_val (P := P) (t := f.type) (off := off) (d := xs[off]'(by omega)) (by rw [takeD_leaf h5, List.getElem?_eq_getElem]) hr h1
    have ih := run_checkFields (w := w) (k := k) hr h1 e hn l (off + 1) h7
    simp only [List.forIn_cons, Sem.run_bind, h3, hp, Result.andThen_ok]
    simp only [h4, ne_eq, not_false_eq_true, if_true, Sem.run_bind, hp, Result.andThen_ok, run_checkLeaf h5, Sem.run_pure]
    exact ih
theorem run_checkKey' {s : RS} {w : World} {kt : TypeId} {k : D} {kv : Value} (ht : keyT P kt = true) (hf : fitsD P kt k = true) (hk : rel s k kv) (e : Bool) : (Instr.checkKey e 10000 kt kv).run P w = .ok () w := by
  obtain ⟨td, hu, hc | ⟨fs, rfl, htl⟩⟩ := keyT_cases ht
  · have hl : leafT P kt = true := by
      unfold leafT; rw [hu]
      rcases hc with ⟨kk, rfl⟩ | rfl | rfl <;> rfl
    exact run_checkLeaf hl e 9999
  · have hag : isAggT P kt = true := by simp [isAggT, hu]
    have hone : isOneT P kt = false := by simp [isOneT, hu]
    unfold fitsD at hf
    split at hf
    · rename_i ds
      simp only [Bool.and_eq_true, beq_iff_eq] at hf
      simp only [rel] at hk
      obtain ⟨vs, rfl, hr, h1⟩ := hk
      have := run_checkFields (w := w) (k := 9998) hr h1 e hf.2 fs.toList 0 htl
      show (Instr.checkKey e (9999 + 1) kt _).run P w = _
      unfold Instr.checkKey
      simp only [Sem.run_bind, run_underlying hu, Result.andThen_ok]
      rw [← Array.forIn_toList]
      have e2 : (Sem.run P (forIn fs.toList PUnit.unit fun f (_ : PUnit) => if f.name ≠ "_" then (do
        let x ← part f.type vs.toArray f.offset
        Instr.checkKey e (9998 + 1) f.type x
        pure (ForInStep.yield PUnit.unit)) else pure (ForInStep.yield PUnit.unit)) w) = .ok PUnit.unit w := this
      rw [e2]; rfl
    · cases hf
    · cases hf
    · rw [hone] at hf; cases hf

theorem map_obj {s : RS} {w : World} (h : RH P s w) {id : Nat} {es : List (D × D)} (hid : s.H id = some (.map es)) :
    ∃ r ens clock, s.κ id = .map (some r) ∧ w.heap[r]? = some (.map ens clock) ∧ relAll s (es.map (·.1)) (ens.toList.map (·.key)) ∧ relAll s (es.map (·.2)) (ens.toList.map (·.val)) := (h.obj id _ hid).2

theorem run_zeroD {t : TypeId} {d : D} (h : zeroD P t = some d) : ∃ z : Value, (∀ w, (zeroValue t).run P w = .ok z w) ∧ ∀ s, rel s d z := by
  unfold zeroD at h
  simp only [Option.map_eq_some_iff, Option.bind_eq_some_iff] at h
  obtain ⟨z, ⟨i, hi, hz⟩, rfl⟩ := h
  exact ⟨z, fun w => by simp [zeroValue, typeInfo, hi, hz], fun s => rel_ofVal s z⟩

theorem run_lookup_some {w : World} {t kt et : TypeId} {xv kv v : Value} {ok : Bool} {i : Nat} {ens : Array MapEntry} (hmt : P.underlying t = some (.map kt et)) (hx : (xv = .map none ∧ ens = #[]) ∨ ∃ r clock, xv = .map (some r) ∧ w.heap[r]? = some (.map ens clock))
    (hck : (Instr.checkKey ens.isEmpty 10000 kt kv).run P w = .ok () w) (ho : (Instr.findKey kt kv ens.toList).run P w = .ok (some (i, v)) w) : (Instr.lookup t xv kv ok).run P w = .ok (if ok = true then .tuple #[v, .bool true] else v) w := by
  rcases hx with ⟨rfl, rfl⟩ | ⟨r, clock, rfl, hh⟩
  · simp at hck ho
    simp [Instr.lookup, run_underlying hmt, hck, ho]
  · simp [Instr.lookup, run_underlying hmt, MapKept.run_getObj_map hh, hck, ho]
theorem run_lookup_none {w : World} {t kt et : TypeId} {xv kv z : Value} {ok : Bool} {ens : Array MapEntry} (hmt : P.underlying t = some (.map kt et)) (hx : (xv = .map none ∧ ens = #[]) ∨ ∃ r clock, xv = .map (some r) ∧ w.heap[r]? = some (.map ens clock))
    (hck : (Instr.checkKey ens.isEmpty 10000 kt kv).run P w = .ok () w) (ho : (Instr.findKey kt kv ens.toList).run P w = .ok none w) (hz : (zeroValue et).run P w = .ok z w) : (Instr.lookup t xv kv ok).run P w = .ok (if ok = true then .tuple #[z, .bool false] else z) w := by
  rcases hx with ⟨rfl, rfl⟩ | ⟨r, clock, rfl, hh⟩
  · simp at hck ho
    simp [Instr.lookup, run_underlying hmt, hck, ho, hz]
  · simp [Instr.lookup, run_underlying hmt, MapKept.run_getObj_map hh, hck, ho, hz]
theorem lookup_sound {s : RS} {w : World} (h : RH P s w) {t : TypeId} {x k d : D} {ok : Bool} {xv kv : Value} (hd : lookupD P s.H t x k ok = some d) (hx : rel s x xv) (hk : rel s k kv) :
    ∃ u, (Instr.lookup t xv kv ok).run P w = .ok u w ∧ rel s d u := by
  unfold lookupD at hd
  split at hd
  · rename_i kt et es hm hes
    split at hd
    · rename_i hc
      have hmt := mapT_some hm
      obtain ⟨ens, hxe, h1, h2⟩ : ∃ ens : Array MapEntry, ((xv = .map none ∧ ens = #[]) ∨ ∃ r clock, xv = .map (some r) ∧ w.heap[r]? = some (.map ens clock)) ∧ relAll s (es.map (·.1)) (ens.toList.map (·.key)) ∧ relAll s (es.map (·.2)) (ens.toList.map (·.val)) := by
        unfold esD at hes
        split at hes
        · simp only [Option.some.injEq] at hes; subst hes
          simp only [rel] at hx; subst hx
          exact ⟨#[], .inl ⟨rfl, rfl⟩, by simp [relAll], by simp [relAll]⟩
        · rename_i id
          split at hes
          · rename_i es' hH
            simp only [Option.some.injEq] at hes; subst hes
            obtain ⟨r, ens, clock, hκ, hheap, h1, h2⟩ := map_obj h hH
            simp only [rel] at hx
            have hxv := hx.2.2 _ hH
            rw [hκ] at hxv; subst hxv
            exact ⟨ens, .inr ⟨r, clock, rfl, hheap⟩, h1, h2⟩
          · cases hes
        · cases hes
      cases hf : findD P kt k es with
      | none => rw [hf] at hd; cases hd
      | some r =>
        rw [hf] at hd
        obtain ⟨o, ho, hfo⟩ := findKey_sound (w := w) hc.1 hk hf h1 h2
        have hck := run_checkKey' (w := w) hc.1 hc.2 hk ens.isEmpty
        cases r with
        | none =>
          simp only [lookR, Option.map_eq_some_iff] at hd
          obtain ⟨z, hz, rfl⟩ := hd
          obtain ⟨zv, hzr, hzrel⟩ := run_zeroD hz
          have hfo : o = none := hfo
          subst hfo
          refine ⟨_, run_lookup_none hmt hxe hck ho (hzr w), ?_⟩
          cases ok
          · simpa using hzrel s
          · simp only [if_true, rel]; exact ⟨[zv, .bool false], rfl, relAll_cons (hzrel s) (relAll_cons (by simp [rel]) relAll_nil)⟩
        | some q =>
          obtain ⟨i, v⟩ := q
          simp only [lookR, Option.some.injEq] at hd
          obtain ⟨e, _, rfl, hrel⟩ := hfo
          refine ⟨_, run_lookup_some hmt hxe hck ho, ?_⟩
          cases ok
          · simp only [Bool.false_eq_true, if_false] at hd ⊢
            subst hd; exact hrel
          · simp only [if_true] at hd ⊢
            subst hd
            simp only [rel]; exact ⟨[e.val, .bool true], rfl, relAll_cons hrel (relAll_cons (by simp [rel]) relAll_nil)⟩
    · cases hd
  · cases hd

theorem found_key {kt : TypeId} {k : D} : ∀ {es : List (D × D)} {i : Nat} {v : D}, findD P kt k es = some (some (i, v)) → ∃ k', (es.map (·.1))[i]? = some k' ∧ eqK P kt k k' = some true
  | [], i, v, h => by simp [findD] at h
  | (k', d) :: es, i, v, h => by
    simp only [findD] at h
    cases hc : eqK P kt k k' with
    | none => rw [hc] at h; cases h
    | some b =>
      rw [hc] at h
      cases b with
      | true =>
        simp only [Option.some.injEq, Prod.mk.injEq] at h
        obtain ⟨rfl, rfl⟩ := h
        exact ⟨k', rfl, hc⟩
      | false =>
        cases hq : findD P kt k es with
        | none => simp only [hq] at h; cases h
        | some q =>
          cases q with
          | none => simp only [hq] at h; cases h
          | some q =>
            simp only [hq, Option.map_some, Option.some.injEq, Prod.mk.injEq] at h
            obtain ⟨rfl, rfl⟩ := h
            obtain ⟨k2, g1, g2⟩ := found_key (i := q.1) (v := q.2) hq
            exact ⟨k2, by simpa using g1, g2⟩
theorem setIf_heap {w : World} {r : Nat} {o o' : Obj} (hb : w.heap[r]? = some o) : ({ w with heap := w.heap.setIfInBounds r o' } : World).heap[r]? = some o' ∧ ∀ k, k ≠ r → ({ w with heap := w.heap.setIfInBounds r o' } : World).heap[k]? = w.heap[k]? := MapKept.heap_set hb

theorem update_sound {s : RS} {w : World} (h : RH P s w) {t : TypeId} {m k x : D} {mv kv xv : Value} {H : HM} (hd : updateD P s.H t m k x = some H) (hm : rel s m mv) (hk : rel s k kv) (hx : rel s x xv) :
    ∃ s' w', (Instr.mapUpdate t mv kv xv).run P w = .ok () w' ∧ Step s w s' w' ∧ RH P s' w' ∧ s'.H = H ∧ s'.nx = s.nx := by
  unfold updateD at hd
  split at hd
  · rename_i kt et id hmt
    split at hd
    · rename_i es hH
      split at hd
      · rename_i hc
        simp only [Option.map_eq_some_iff] at hd
        obtain ⟨o', ho', rfl⟩ := hd
        have hmt := mapT_some hmt
        obtain ⟨r, ens, clock, hκ, hheap, h1, h2⟩ := map_obj h hH
        simp only [rel] at hm
        have hmv := hm.2.2 _ hH
        rw [hκ] at hmv; subst hmv
        have hck := run_checkKey' (w := w) hc.1 hc.2 hk false
        have hrlt : r < w.heap.size := lt_of_heap hheap
        have fin : ∀ (es' : List (D × D)) (ens' : Array MapEntry) (clock' : Nat), (Instr.mapUpdate t (.map (some r)) kv xv).run P w = .ok () { w with heap := w.heap.setIfInBounds r (.map ens' clock') } →
            relAll s (es'.map (·.1)) (ens'.toList.map (·.key)) → relAll s (es'.map (·.2)) (ens'.toList.map (·.val)) →
            ∃ s' w', (Instr.mapUpdate t (.map (some r)) kv xv).run P w = .ok () w' ∧ Step s w s' w' ∧ RH P s' w' ∧ s'.H = updH s.H id (some (.map es')) ∧ s'.nx = s.nx := by
          intro es' ens' clock' hrun hr1 hr2
          obtain ⟨hs1, hs2⟩ := setIf_heap (o' := .map ens' clock') hheap
          obtain ⟨g1, g2⟩ := set_obj (w' := { w with heap := w.heap.setIfInBounds r (.map ens' clock') }) h id (.map es) (.map es') (s.κ id) hH rfl rfl rfl (by simp)
            (fun k hk hne => hs2 k (fun e => hne (by rw [hκ, e]; rfl))) (.inr ⟨es', rfl, rfl⟩) (fun b hb => .inl hb)
            (fun hl => ⟨r, ens', clock', hκ, hs1, relAll.later hl _ _ hr1, relAll.later hl _ _ hr2⟩)
          exact ⟨_, _, hrun, g1, g2, rfl, rfl⟩
        cases hf : findD P kt k es with
        | none => rw [hf] at ho'; cases ho'
        | some q =>
          rw [hf] at ho'
          obtain ⟨o, ho, hfo⟩ := findKey_sound (w := w) hc.1 hk hf h1 h2
          cases q with
          | none =>
            simp only [updR, Option.some.injEq] at ho'; subst ho'
            have hfo : o = none := hfo
            subst hfo
            refine fin (es ++ [(k, x)]) (ens.push { key := kv, val := xv, born := clock }) (clock + 1) ?_ ?_ ?_
            · simp [Instr.mapUpdate, run_underlying hmt, MapKept.run_getObj_map hheap, hck, ho, MapKept.run_setObj_map _ hheap]
            · simpa using relAll_append h1 (relAll_cons hk relAll_nil)
            · simpa using relAll_append h2 (relAll_cons hx relAll_nil)
          | some q =>
            obtain ⟨i, v⟩ := q
            simp only [updR, Option.some.injEq] at ho'; subst ho'
            obtain ⟨e, hei, rfl, _⟩ := hfo
            rw [Nat.zero_add] at ho
            have hei' : ens[i]? = some e := by simpa using hei
            obtain ⟨k', hk'1, hk'2⟩ := found_key hf
            have hrk' : rel s k' e.key := by
              obtain ⟨u, hu1, hu2⟩ := relAll_get h1 i k' hk'1
              rw [List.getElem?_map, hei, Option.map_some, Option.some.injEq] at hu1
              rw [hu1]; exact hu2
            obtain ⟨hsame, hbits⟩ := same_key hc.1 hk'2 hk hrk'
            have hkts : (Instr.keyThatStays e.key kv).run P w = .ok kv w := by
              rw [← hsame]; simp [Instr.keyThatStays, hbits]
            refine fin (setVal es i x) (ens.modify i fun e => { e with key := kv, val := xv }) clock ?_ ?_ ?_
            · simp [Instr.mapUpdate, run_underlying hmt, MapKept.run_getObj_map hheap, hck, ho, hei', hkts, MapKept.run_setObj_map _ hheap]
            · rw [setVal_keys]
              have : (ens.modify i fun e => { e with key := kv, val := xv }).toList.map (·.key) = ens.toList.map (·.key) := MapKept.modify_keys i _ (fun e' he' => by rw [hei'] at he'; cases he'; exact hsame)
              rw [this]; exact h1
            · rw [setVal_vals]
              have : (ens.modify i fun e => { e with key := kv, val := xv }).toList.map (·.val) = (ens.toList.map (·.val)).set i xv := by
                apply List.ext_getElem?
                intro j
                simp only [List.getElem?_map, Array.getElem?_toList, Array.getElem?_modify, List.getElem?_set, List.length_map, Array.length_toList]
                by_cases hij : i = j
                · subst hij
                  have hlt : i < ens.size := (Array.getElem?_eq_some_iff.1 hei').1
                  simp [hei', hlt]
                · simp [hij]
              rw [this]; exact relAll_set h2 i hx
      · cases hd
    · cases hd
  · cases hd

theorem makeMap_sound {s : RS} {w : World} (h : RH P s w) (t : TypeId) :
    ∃ v s' w', (Instr.makeMap t none).run P w = .ok v w' ∧ Step s w s' w' ∧ RH P s' w' ∧ s'.H = updH s.H s.nx (some (.map [])) ∧ s'.nx = s.nx + 1 ∧ rel s' (.mp s.nx) v := by
  obtain ⟨h3, h4⟩ := new_obj h (Grew.alloc w (.map #[] 0)) (.map []) (.map (some w.heap.size)) (fun b hb => by simp only [blockOf, Option.some.injEq] at hb; omega)
    ⟨w.heap.size, #[], 0, rfl, by simpa using heap_alloc_new w (.map #[] 0), by simp [relAll], by simp [relAll]⟩
  refine ⟨.map (some w.heap.size), _, _, rfl, h3, h4, rfl, rfl, ?_⟩
  simp only [rel]
  refine ⟨by simp [RS.add], ⟨_, rfl⟩, fun es hH => by simp [RS.add]⟩
theorem range_sound {s : RS} {w : World} (h : RH P s w) {t : TypeId} {d : D} {v : Value} {q : Obj} (hd : rangeD P t d = some q) (hv : rel s d v) :
    ∃ u s' w', (Instr.range t v).run P w = .ok u w' ∧ Step s w s' w' ∧ RH P s' w' ∧ s'.H = updH s.H s.nx (some (.raw q)) ∧ s'.nx = s.nx + 1 ∧ rel s' (.it s.nx) u := by
  unfold rangeD at hd
  split at hd
  · rename_i x
    split at hd
    · rename_i ht
      cases hd
      simp only [rel] at hv; subst hv
      obtain ⟨h3, h4⟩ := new_obj h (Grew.alloc w (.stringIter x 0)) (.raw (.stringIter x 0)) (.pointer (some ⟨w.heap.size, 0, none⟩)) (fun b hb => by simp only [blockOf, Option.some.injEq] at hb; omega)
        ⟨w.heap.size, rfl, by simpa using heap_alloc_new w (.stringIter x 0)⟩
      refine ⟨_, _, _, run_range_string w t x (strT_some ht), h3, h4, rfl, rfl, ?_⟩
      simp only [rel]
      exact ⟨by simp [RS.add], ⟨_, rfl⟩, fun es hH => by simp [RS.add]⟩
    · cases hd
  · cases hd
theorem next_sound {s : RS} {w : World} (h : RH P s w) {b : Bool} {ty : TypeId} {d e : D} {v : Value} {H : HM} {nx : Nat} (hd : nextD s.H s.nx b d = some (e, H, nx)) (hv : rel s d v) :
    ∃ u s' w', (Instr.next v b ty).run P w = .ok u w' ∧ Step s w s' w' ∧ RH P s' w' ∧ s'.H = H ∧ s'.nx = nx ∧ rel s' e u := by
  unfold nextD at hd
  split at hd
  · rename_i id
    split at hd
    · rename_i x p hH
      simp only [rel] at hv
      obtain ⟨hid, _, hv⟩ := hv
      have hv := hv _ hH
      obtain ⟨_, r, hk, hh⟩ := h.obj id _ hH
      rw [hk] at hv; subst hv
      split at hd
      · rename_i hp
        simp only [Option.some.injEq, Prod.mk.injEq] at hd
        obtain ⟨rfl, rfl, rfl⟩ := hd
        obtain ⟨g1, g2⟩ := set_obj (w' := w.iterAt r x (p + (Utf8.decode x p).2)) h id _ (.raw (.stringIter x (p + (Utf8.decode x p).2))) (s.κ id) hH rfl rfl rfl (by simp [World.iterAt])
          (fun k hk' hne => by
            simp only [World.iterAt]
            rw [Array.getElem?_setIfInBounds_ne]
            intro he; exact hne (by rw [hk, ← he]; rfl))
          (.inr ⟨_, rfl, rfl⟩) (fun b hb => .inl hb) (fun _ => ⟨r, hk, Lib.iterAt_heap w r x p _ hh⟩)
        refine ⟨_, _, _, Lib.run_next_any_at w r x p ty hh hp, g1, g2, rfl, rfl, ?_⟩
        simp only [rel]
        exact ⟨_, rfl, relAll_cons (by simp [rel]) (relAll_cons (by simp [rel]) (relAll_cons (by simp [rel]) relAll_nil))⟩
      · rename_i hp
        simp only [Option.some.injEq, Prod.mk.injEq] at hd
        obtain ⟨rfl, rfl, rfl⟩ := hd
        refine ⟨_, s, w, Lib.run_next_end_at w r x p ty hh hp, Step.refl s w, h, rfl, rfl, ?_⟩
        simp only [rel]
        exact ⟨_, rfl, relAll_cons (by simp [rel]) relAll_nil⟩
    · cases hd
  · cases hd
theorem intT_some {t : TypeId} {k : IntKind} (h : intT P t = some k) : P.underlying t = some (.int k) := by
  unfold intT at h
  split at h
  · cases h; assumption
  · cases h
theorem u8T_some {t : TypeId} (h : u8T P t = true) : ∃ e, P.underlying t = some (.slice e) ∧ P.underlying e = some (.int .u8) := by
  unfold u8T at h
  split at h
  · rename_i e he
    split at h
    · rename_i hi
      exact ⟨e, elemT_some he, intT_some hi⟩
    · cases h
  · cases h
theorem unbyte_rel {s : RS} : ∀ {els : List D} {l : List UInt8} {vs : List Value}, unbyte els = some l → relAll s els vs → vs = l.map fun b => .int .u8 b.toNat
  | [], l, vs, h, hr => by simp only [unbyte, Option.some.injEq] at h; subst h; simpa [relAll] using hr
  | d :: els, l, vs, h, hr => by
    simp only [relAll] at hr
    obtain ⟨v, r, rfl, h1, h2⟩ := hr
    unfold unbyte at h
    split at h
    · rename_i he; cases he
    · rename_i n l' he
      cases he
      split at h
      · rename_i hn
        simp only [Option.map_eq_some_iff] at h
        obtain ⟨l2, h3, rfl⟩ := h
        rw [unbyte_rel h3 h2, List.map_cons]
        simp only [rel] at h1
        rw [h1]
        congr 2
        have : n.toNat < 256 := by omega
        simp [UInt8.toNat_ofNat', Nat.mod_eq_of_lt this]
        omega
      · cases h
    · cases h
theorem relAll_of_get' {s : RS} {α : Type} {f : α → D} {g : α → Value} (h : ∀ x, rel s (f x) (g x)) : ∀ (l : List α), relAll s (l.map f) (l.map g)
  | [] => relAll_nil
  | x :: l => relAll_cons (h x) (relAll_of_get' h l)
theorem convS_sound {s : RS} {w : World} (h : RH P s w) {src dst : TypeId} {d e : D} {v : Value} (hd : convS P src dst d = some e) (hv : rel s d v) :
    ∃ u s' w', (convert src dst v).run P w = .ok u w' ∧ Step s w s' w' ∧ RH P s' w' ∧ s'.H = s.H ∧ s'.nx = s.nx ∧ rel s' e u := by
  unfold convS at hd
  split at hd
  · rename_i x
    split at hd
    · rename_i hc
      obtain ⟨hc1, hc2, hc3⟩ := hc
      cases hd
      obtain ⟨el, he1, he2⟩ := u8T_some hc2
      simp only [rel] at hv; subst hv
      have hm : x.size ≤ maxLen := by unfold maxLen; omega
      have hrun := run_bytes_of_string w src dst el x (strT_some hc1) he1 he2
      have hgrew : Grew w (w.drew.alloc (.cells (bytesRow x (grownCap w x.size 0 el)) el ((bytesRow x (grownCap w x.size 0 el)).size, (bytesRow x (grownCap w x.size 0 el)).size + 1))) := Grew.of_drew (Grew.alloc _ _)
      obtain ⟨g1, g2⟩ := new_mem h hgrew
      refine ⟨_, _, _, hrun, g1, g2, rfl, rfl, ?_⟩
      have hbl : (bytesD x).length = x.size := by unfold bytesD; rw [List.length_map]; rfl
      simp only [rel]
      refine .inr ⟨⟨w.heap.size, 0, none⟩, grownCap w x.size 0 el, x.data.toList.map fun b => .int .u8 b.toNat, by rw [hbl], by rw [hbl]; exact grownCap_ge w x.size 0 el, grownCap_le_maxLen w _ 0 el hm, ?_, fun i u hu => ?_⟩
      · exact relAll_of_get' (fun b => by simp [rel]) _
      · rw [List.getElem?_map, Option.map_eq_some_iff] at hu
        obtain ⟨b, hb, rfl⟩ := hu
        refine ⟨rfl, fun j c hj => ?_⟩
        cases j with
        | succ j => simp [Value.cells] at hj
        | zero =>
          simp [Value.cells] at hj; subst hj
          show (s.grow w _).m _ = _
          have hi : i < x.data.size := by
            rcases Nat.lt_or_ge i x.data.size with h9 | h9
            · exact h9
            · rw [List.getElem?_eq_none (by simpa using h9)] at hb; cases hb
          simp only [RS.grow, addr_add0, Nat.mul_one, Nat.add_zero, Nat.zero_add]
          rw [if_neg (by simp)]
          have hnew : ∀ (C : Array Value) (q : Nat × Nat), (w.drew.alloc (.cells C el q)).cell? ⟨w.heap.size, i, none⟩ = C[i]? := fun C q => by
            have : (w.drew.alloc (.cells C el q)).heap[w.heap.size]? = some (.cells C el q) := heap_alloc_new w.drew _
            unfold World.cell?
            simp only [this]
            rfl
          rw [hnew]
          unfold bytesRow
          rw [Array.getElem?_append_left (by simpa using hi), Array.getElem?_map]
          rw [Array.getElem?_toList] at hb
          rw [hb]; rfl
    · cases hd
  · rename_i nn els
    split at hd
    · rename_i hc
      obtain ⟨hc1, hc2⟩ := hc
      obtain ⟨el, he1, he2⟩ := u8T_some hc1
      simp only [Option.map_eq_some_iff] at hd
      obtain ⟨l, hl, rfl⟩ := hd
      simp only [rel] at hv
      rcases hv with ⟨_, rfl, rfl⟩ | ⟨a, cap, vs, rfl, h2, h3, h4, h5⟩
      · simp only [unbyte, Option.some.injEq] at hl; subst hl
        refine ⟨_, s, w, run_convert_bytes_nil (w := w) src el he1 he2 0 0 dst (strT_some hc2), Step.refl s w, h, rfl, rfl, ?_⟩
        simp only [rel]; rfl
      · have hvs := unbyte_rel hl h4
        have hlen : els.length = l.length := by rw [← relAll_length h4, hvs, List.length_map]
        rw [hlen]
        refine ⟨_, s, w, run_convert_bytes_back w src dst el a cap l he1 he2 (strT_some hc2) (fun j hj => ?_), Step.refl s w, h, rfl, rfl, by simp only [rel]⟩
        have := h5 j (.int .u8 l[j].toNat) (by rw [hvs, List.getElem?_map, List.getElem?_eq_getElem hj]; rfl)
        have := this.2 0 (.int .u8 l[j].toNat) rfl
        simp only [Nat.mul_one] at this
        have := (h.mem _ _ this).1
        rw [← this]
        congr 1
    · cases hd
  · cases hd
end Go.Proofs.YtkhjpcmpljpmjaaGreatDoor.Abs
