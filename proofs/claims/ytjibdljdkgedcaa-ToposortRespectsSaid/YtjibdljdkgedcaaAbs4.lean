/-
  The abstract operations are sound, first part: values, cells, loads, stores, fields, indexes. No condition.
-/
import Derived.Test.YtjibdljdkgedcaaAbs3
set_option linter.unusedSimpArgs false
set_option linter.unusedVariables false
namespace Go.Proofs.Ytjibdljdkgedcaa.Abs
open Go.RowKit
variable {P : Program}

theorem ones_nil : ones [] := fun _ h => by cases h
theorem ones_one {v : Value} (h : v.oneCell' = true) : ones [v] := by
  intro u hu; simp at hu; subst hu; exact h
theorem ones_append {vs us : List Value} (h : ones vs) (h' : ones us) : ones (vs ++ us) := by
  intro u hu; rcases List.mem_append.1 hu with h1 | h1
  · exact h u h1
  · exact h' u h1
theorem ones_take {vs : List Value} (h : ones vs) (n : Nat) : ones (vs.take n) := fun u hu => h u (List.mem_of_mem_take hu)
theorem ones_drop {vs : List Value} (h : ones vs) (n : Nat) : ones (vs.drop n) := fun u hu => h u (List.mem_of_mem_drop hu)
theorem cells_of_one {v : Value} (h : v.oneCell' = true) : v.cells = #[v] := by cases v <;> simp_all [Value.cells, Value.oneCell']

theorem rel_cells {s : RS} {d : D} {v : Value} {ds : List D} (h : rel s d v) (hc : cellsD d = some ds) : relAll s ds v.cells.toList ∧ ones v.cells.toList := by
  have one : ∀ (d : D), cellsD d = some [d] → v.oneCell' = true → rel s d v → cellsD d = some ds → relAll s ds v.cells.toList ∧ ones v.cells.toList := by
    intro d h1 h2 h3 h4
    rw [h1] at h4; cases h4
    rw [cells_of_one h2]
    exact ⟨relAll_cons h3 relAll_nil, ones_one h2⟩
  cases d with
  | any => simp [cellsD] at hc
  | tup ds => simp [cellsD] at hc
  | agg es =>
    simp only [cellsD, Option.some.injEq] at hc; subst hc
    simp only [rel] at h
    obtain ⟨vs, rfl, h2, h3⟩ := h
    simp only [Value.cells]
    exact ⟨h2, h3⟩
  | int k n => exact one _ rfl (by simp only [rel] at h; subst h; rfl) h hc
  | bool b => exact one _ rfl (by simp only [rel] at h; subst h; rfl) h hc
  | str b => exact one _ rfl (by simp only [rel] at h; subst h; rfl) h hc
  | nil => exact one _ rfl (by simp only [rel] at h; subst h; rfl) h hc
  | nptr => exact one _ rfl (by simp only [rel] at h; subst h; rfl) h hc
  | nfun => exact one _ rfl (by simp only [rel] at h; subst h; rfl) h hc
  | nmp => exact one _ rfl (by simp only [rel] at h; subst h; rfl) h hc
  | e0 => exact one _ rfl (by simp only [rel] at h; obtain ⟨a, rfl⟩ := h; rfl) h hc
  | rsl nn sz els =>
    refine one _ rfl ?_ h hc
    simp only [rel] at h
    rcases h with ⟨_, _, rfl⟩ | ⟨a, cap, vs, rfl, _⟩ <;> rfl
  | rptr d =>
    refine one _ rfl ?_ h hc
    simp only [rel] at h
    obtain ⟨a, u, rfl, _⟩ := h; rfl
  | fsl sz els =>
    refine one _ rfl ?_ h hc
    simp only [rel] at h
    rcases h with ⟨_, rfl⟩ | ⟨a, vs, rfl, _⟩ <;> rfl
  | fn f cap =>
    refine one _ rfl ?_ h hc
    simp only [rel] at h
    obtain ⟨vs, rfl, _⟩ := h; rfl
  | osl id n => exact one _ rfl (by simp only [rel] at h; obtain ⟨_, h2, _⟩ := h; first | (obtain ⟨_, rfl⟩ := h2; rfl) | (obtain ⟨_, _, rfl⟩ := h2; rfl)) h hc
  | ptr id n => exact one _ rfl (by simp only [rel] at h; obtain ⟨_, h2, _⟩ := h; first | (obtain ⟨_, rfl⟩ := h2; rfl) | (obtain ⟨_, _, rfl⟩ := h2; rfl)) h hc
  | eptr id n off => exact one _ rfl (by simp only [rel] at h; obtain ⟨_, h2, _⟩ := h; first | (obtain ⟨_, rfl⟩ := h2; rfl) | (obtain ⟨_, _, rfl⟩ := h2; rfl)) h hc
  | mp id => exact one _ rfl (by simp only [rel] at h; obtain ⟨_, h2, _⟩ := h; first | (obtain ⟨_, rfl⟩ := h2; rfl) | (obtain ⟨_, _, rfl⟩ := h2; rfl)) h hc
  | it id => exact one _ rfl (by simp only [rel] at h; obtain ⟨_, h2, _⟩ := h; first | (obtain ⟨_, rfl⟩ := h2; rfl) | (obtain ⟨_, _, rfl⟩ := h2; rfl)) h hc

theorem rel_ofCell (s : RS) (v : Value) : rel s (ofCell v) v := by
  unfold ofCell
  split <;> simp [rel]
theorem rel_ofVal (s : RS) (v : Value) : rel s (ofVal v) v := by
  unfold ofVal
  split
  · rename_i cs
    split
    · rename_i h
      simp only [rel]
      refine ⟨cs.toList, by simp, ?_, fun u hu => by simpa using List.all_eq_true.1 h u hu⟩
      refine relAll_of (by simp) fun i d u hd hu => ?_
      simp only [List.getElem?_map, hu, Option.map_some, Option.some.injEq] at hd
      subst hd; exact rel_ofCell s u
    · simp [rel]
  · exact rel_ofCell s v
theorem relAll_ofCells (s : RS) (vs : List Value) : relAll s (vs.map ofCell) vs := by
  refine relAll_of (by simp) fun i d u hd hu => ?_
  simp only [List.getElem?_map, hu, Option.map_some, Option.some.injEq] at hd
  subst hd; exact rel_ofCell s u

theorem aggT_underlying {t : TypeId} (h : isAggT P t = true) : (∃ fs, P.underlying t = some (.struct fs)) ∨ ∃ n e, P.underlying t = some (.array n e) := by
  unfold isAggT at h
  split at h
  · rename_i fs hu; exact .inl ⟨fs, hu⟩
  · rename_i n e hu; exact .inr ⟨n, e, hu⟩
  · cases h
theorem run_isAgg_true {t : TypeId} (h : isAggT P t = true) (w : World) : (isAgg t).run P w = .ok true w := by
  rcases aggT_underlying h with ⟨fs, hu⟩ | ⟨n, e, hu⟩ <;> simp [isAgg, run_underlying hu]
theorem run_isAgg_false {t : TypeId} (h : isOneT P t = true) (w : World) : (isAgg t).run P w = .ok false w := by
  unfold isOneT at h
  cases hu : P.underlying t with
  | none => rw [hu] at h; cases h
  | some d =>
    rw [hu] at h
    cases d <;> first | (cases h; done) | simp [isAgg, run_underlying hu]
theorem info_of_underlying {t : TypeId} {d : TypeDesc} (h : P.underlying t = some d) : ∃ i, P.info? t = some i := by
  unfold Program.underlying at h
  cases hi : P.info? t with
  | none => rw [hi] at h; cases h
  | some i => exact ⟨i, rfl⟩
theorem run_sizeOf {t : TypeId} {i : TypeInfo} (h : P.info? t = some i) (w : World) : (sizeOf t).run P w = .ok (sizeT P t) w := by
  simp [sizeOf, typeInfo, h, sizeT]
theorem run_sizeOf_u {t : TypeId} {d : TypeDesc} (h : P.underlying t = some d) (w : World) : (sizeOf t).run P w = .ok (sizeT P t) w := by
  obtain ⟨i, hi⟩ := info_of_underlying h
  exact run_sizeOf hi w
theorem info_of_size {t : TypeId} (h : sizeT P t ≠ 0) : ∃ i, P.info? t = some i := by
  unfold sizeT at h
  cases hi : P.info? t with
  | none => rw [hi] at h; simp at h
  | some i => exact ⟨i, rfl⟩

theorem relAll_seg {s : RS} {cs : List D} {vs : List Value} (h : relAll s cs vs) (off n : Nat) : relAll s ((cs.drop off).take n) ((vs.drop off).take n) := relAll_take n (relAll_drop off h)

/-- What a type takes out of a row of cells. -/
theorem takeD_val {s : RS} {t : TypeId} {cs : List D} {vs : List Value} {off : Nat} {d : D} (h : takeD P t cs off = some d) (hr : relAll s cs vs) (h1 : ones vs) :
    ∃ u, rel s d u ∧ (∀ j c, u.cells.toList[j]? = some c → vs[off + j]? = some c) ∧
      (∀ (w : World) (a : Addr), (∀ j c, u.cells.toList[j]? = some c → w.cell? (a.add j) = some c) → (loadVar t a).run P w = .ok u w) ∧
      (∀ w, (part t vs.toArray off).run P w = .ok u w) := by
  have hlen := relAll_length hr
  unfold takeD at h
  split at h
  · rename_i hagg
    split at h
    · rename_i hle
      simp only [Option.some.injEq] at h
      subst h
      refine ⟨.agg ((vs.drop off).take (sizeT P t)).toArray, ?_, ?_, ?_, ?_⟩
      · simp only [rel]
        exact ⟨_, rfl, relAll_seg hr _ _, ones_take (ones_drop h1 _) _⟩
      · intro j c hj
        simp only [Value.cells, List.getElem?_take, List.getElem?_drop] at hj
        split at hj
        · exact hj
        · cases hj
      · intro w a ha
        have hl : ((vs.drop off).take (sizeT P t)).length = sizeT P t := by simp; omega
        have hload := run_loadCells_list (P := P) w a ((vs.drop off).take (sizeT P t)) (by simpa [Value.cells] using ha)
        rw [hl] at hload
        rcases aggT_underlying hagg with ⟨fs, hu⟩ | ⟨n, e, hu⟩ <;>
          simp [loadVar, run_isAgg_true hagg, run_sizeOf_u hu, hload]
      · intro w
        rcases aggT_underlying hagg with ⟨fs, hu⟩ | ⟨n, e, hu⟩ <;>
        · simp only [part, Sem.run_bind, run_isAgg_true hagg, Result.andThen_ok, if_true, run_sizeOf_u hu, Sem.run_pure]
          congr 2
          apply Array.ext'
          simp
    · cases h
  · split at h
    · rename_i hone
      obtain ⟨u, hu, hru⟩ := relAll_get hr off d h
      have hu1 : u.oneCell' = true := h1 u (List.mem_of_getElem? hu)
      refine ⟨u, hru, ?_, ?_, ?_⟩
      · intro j c hj
        rw [cells_of_one hu1] at hj
        cases j with
        | zero => simp at hj; subst hj; simpa using hu
        | succ j => simp at hj
      · intro w a ha
        have := ha 0 u (by rw [cells_of_one hu1]; simp)
        simp only [Addr.add, if_true] at this
        simp [loadVar, run_isAgg_false hone, this]
      · intro w
        simp [part, run_isAgg_false hone, hu]
    · cases h

/-- An operation ran, and the state behind it is a later one. -/
def Ran (P : Program) (s : RS) (w : World) (e : Sem Next) (d : D) (H : HM) (nx : Nat) : Prop :=
  ∃ v s' w', (e.run P w = .ok (.value v) w' ∨ (e.run P w = .ok .skip w' ∧ v = undef)) ∧ Step s w s' w' ∧ RH P s' w' ∧ s'.H = H ∧ s'.nx = nx ∧ rel s' d v

theorem ran_pure {s : RS} {w : World} {e : Sem Next} {d : D} {v : Value} (h : RH P s w) (hr : e.run P w = .ok (.value v) w) (hd : rel s d v) : Ran P s w e d s.H s.nx :=
  ⟨v, s, w, .inl hr, Step.refl s w, h, rfl, rfl, hd⟩
theorem ran_value {s : RS} {w : World} {x : Sem Value} {d : D} {v : Value} (h : RH P s w) (hr : x.run P w = .ok v w) (hd : rel s d v) :
    Ran P s w (do pure (.value (← x))) d s.H s.nx :=
  ran_pure h (by simp [hr]) hd

/-- The cells of an owned box. -/
theorem box_cells {s : RS} {w : World} (h : RH P s w) {id : Nat} {e : TypeId} {cs : List D} (hid : s.H id = some (.box e cs)) :
    ∃ b vs, s.κ id = .pointer (some ⟨b, 0, none⟩) ∧ w.heap[b]? = some (.cells (List.toArray vs) e (0, 0)) ∧ relAll s cs vs ∧ ones vs ∧
      ∀ j c, vs[j]? = some c → w.cell? ⟨b, j, none⟩ = some c := by
  obtain ⟨b, vs, hv, hh, hr, h1⟩ := (h.obj id _ hid).2
  refine ⟨b, vs, hv, hh, hr, h1, fun j c hj => ?_⟩
  rw [cell_of_row w b j _ e (0, 0) hh]; simpa using hj
/-- The cells of an owned row. -/
theorem row_cells {s : RS} {w : World} (h : RH P s w) {id : Nat} {e : TypeId} {n : Nat} {cs : List D} (hid : s.H id = some (.row e n cs)) :
    ∃ vs, w.ownsRow 0 e (sizeT P e) (s.κ id) n vs ∧ relAll s cs vs ∧ ones vs ∧ cs.length = n * sizeT P e ∧
      ∀ b, blockOf (s.κ id) = some b → ∀ j c, vs[j]? = some c → w.cell? ⟨b, j, none⟩ = some c := by
  obtain ⟨vs, ho, hr, h1⟩ := (h.obj id _ hid).2
  refine ⟨vs, ho, hr, h1, by rw [← relAll_length hr]; exact ho.1, fun b hb j c hj => ?_⟩
  rcases ho.2 with ⟨hv, _⟩ | ⟨g, cap, cur, hv, _, hh, _, _, _, ht⟩
  · rw [hv] at hb; cases hb
  · rw [hv] at hb; cases hb
    rw [cell_of_row w g j _ e (0, 0) hh]
    rw [← ht, List.getElem?_take] at hj
    split at hj
    · simpa using hj
    · cases hj
theorem addr_add0 (b off j : Nat) : (⟨b, off, none⟩ : Addr).add j = ⟨b, off + j, none⟩ := by
  unfold Addr.add; split
  · rename_i h; subst h; rfl
  · rfl
theorem addr_add_add (a : Addr) (n m : Nat) : (a.add n).add m = a.add (n + m) := by
  unfold Addr.add
  by_cases hn : n = 0
  · subst hn; simp
  · by_cases hm : m = 0
    · subst hm; simp [hn]
    · simp [hn, hm, Nat.add_assoc]

theorem fits_load {s : RS} {t : TypeId} {d : D} {u : Value} (hf : fitsD P t d = true) (hr : rel s d u) (w : World) (a : Addr)
    (hc : ∀ j c, u.cells.toList[j]? = some c → w.cell? (a.add j) = some c) : (loadVar t a).run P w = .ok u w := by
  have one : isOneT P t = true → u.oneCell' = true → (loadVar t a).run P w = .ok u w := by
    intro h1 h2
    have := hc 0 u (by rw [cells_of_one h2]; simp)
    simp only [Addr.add, if_true] at this
    simp [loadVar, run_isAgg_false h1, this]
  have cell : (∀ ds, d ≠ .agg ds) → (∀ ds, d ≠ .tup ds) → d ≠ .any → isOneT P t = true → (loadVar t a).run P w = .ok u w := by
    intro g1 g2 g3 h2
    refine one h2 ?_
    cases d <;> first | exact (g1 _ rfl).elim | exact (g2 _ rfl).elim | exact (g3 rfl).elim | skip
    all_goals simp only [rel] at hr
    all_goals first
      | (subst hr; rfl)
      | (rcases hr with ⟨_, _, rfl⟩ | ⟨_, _, _, rfl, _⟩ <;> rfl)
      | (rcases hr with ⟨_, rfl⟩ | ⟨_, _, rfl, _⟩ <;> rfl)
      | (obtain ⟨_, ⟨_, rfl⟩, _⟩ := hr; rfl)
      | (obtain ⟨_, ⟨_, _, rfl⟩, _⟩ := hr; rfl)
      | (obtain ⟨_, _, rfl, _⟩ := hr; rfl)
      | (obtain ⟨_, rfl, _⟩ := hr; rfl)
  cases d with
  | agg ds =>
    simp only [fitsD, Bool.and_eq_true, beq_iff_eq] at hf
    obtain ⟨hagg, hl⟩ := hf
    simp only [rel] at hr
    obtain ⟨vs, rfl, h2, h3⟩ := hr
    have hload := run_loadCells_list (P := P) w a vs (by simpa [Value.cells] using hc)
    rw [relAll_length h2, hl] at hload
    rcases aggT_underlying hagg with ⟨fs, hu⟩ | ⟨n, e, hu⟩ <;>
      simp [loadVar, run_isAgg_true hagg, run_sizeOf_u hu, hload]
  | any => simp [fitsD] at hf
  | tup ds => simp [fitsD] at hf
  | _ => exact cell (by simp) (by simp) (by simp) (by simpa [fitsD] using hf)

theorem load_sound {s : RS} {w : World} (h : RH P s w) {t : TypeId} {p d : D} {v : Value} (hd : loadD P s.H t p = some d) (hp : rel s p v) :
    ∃ u, (Instr.loadAt t v).run P w = .ok u w ∧ rel s d u := by
  unfold loadD at hd
  split at hd
  · rename_i id off
    cases hid : s.H id with
    | none => rw [hid] at hd; cases hd
    | some o =>
      rw [hid] at hd
      cases o with
      | box e cs =>
        simp only at hd
        obtain ⟨b, vs, hk, hh, hr, h1, hcell⟩ := box_cells h hid
        simp only [rel] at hp
        obtain ⟨_, _, hp⟩ := hp
        obtain ⟨b', hk', rfl⟩ := hp _ _ hid
        rw [hk] at hk'; cases hk'
        obtain ⟨u, hu, hsub, hload, _⟩ := takeD_val hd hr h1
        refine ⟨u, ?_, hu⟩
        simp only [Instr.loadAt, Instr.sureAddr, Sem.run_bind, Sem.run_pure, Result.andThen_ok]
        exact hload w _ fun j c hj => by rw [addr_add0]; exact hcell _ _ (hsub j c hj)
      | row e n cs => cases hd
      | map es => cases hd
      | raw q => cases hd
  · rename_i id n off
    cases hid : s.H id with
    | none => rw [hid] at hd; cases hd
    | some o =>
      rw [hid] at hd
      cases o with
      | row e k cs =>
        simp only at hd
        split at hd
        · rename_i hnk
          subst hnk
          obtain ⟨vs, ho, hr, h1, _, hcell⟩ := row_cells h hid
          simp only [rel] at hp
          obtain ⟨_, _, hp⟩ := hp
          obtain ⟨b, hk', rfl⟩ := (hp _ _ _ hid).2 rfl
          obtain ⟨u, hu, hsub, hload, _⟩ := takeD_val hd hr h1
          refine ⟨u, ?_, hu⟩
          simp only [Instr.loadAt, Instr.sureAddr, Sem.run_bind, Sem.run_pure, Result.andThen_ok]
          exact hload w _ fun j c hj => by rw [addr_add0]; exact hcell _ hk' _ _ (hsub j c hj)
        · cases hd
      | box e cs => cases hd
      | map es => cases hd
      | raw q => cases hd
  · rename_i d'
    split at hd
    · rename_i hf
      cases hd
      simp only [rel] at hp
      obtain ⟨a, u, rfl, hr, hc⟩ := hp
      refine ⟨u, ?_, hr⟩
      simp only [Instr.loadAt, Instr.sureAddr, Sem.run_bind, Sem.run_pure, Result.andThen_ok]
      exact fits_load hf hr w a fun j c hj => (h.mem _ _ (hc j c hj)).1
    · cases hd
  · cases hd

theorem fieldAddr_sound {s : RS} {w : World} (_h : RH P s w) {st : TypeId} {p d : D} {v : Value} {f : Nat} (hd : fieldAddrD P st p f = some d) (hp : rel s p v) :
    ∃ u, (Instr.fieldAt st v f).run P w = .ok u w ∧ rel s d u := by
  unfold fieldAddrD at hd
  cases hf : fieldT P st f with
  | none => rw [hf] at hd; cases hd
  | some ot =>
    obtain ⟨o, t⟩ := ot
    rw [hf] at hd
    simp only at hd
    unfold fieldT at hf
    cases hu : P.underlying st with
    | none => rw [hu] at hf; cases hf
    | some desc =>
      rw [hu] at hf
      cases desc <;> first | (cases hf; done) | skip
      rename_i fs
      simp only [Option.map_eq_some_iff] at hf
      obtain ⟨fld, hfld, heq⟩ := hf
      simp only [Prod.mk.injEq] at heq
      obtain ⟨rfl, rfl⟩ := heq
      split at hd
      · cases hd
      · rename_i hsz
        obtain ⟨i, hi⟩ := info_of_size hsz
        have run : ∀ a : Addr, (Instr.fieldAt st (.pointer (some a)) f).run P w = .ok (.pointer (some (a.add fld.offset))) w := by
          intro a
          simp [Instr.fieldAt, run_underlying hu, hfld, Instr.sureAddr, fieldPlace, run_sizeOf hi, hsz]
        cases p <;> first | (cases hd; done) | skip
        case ptr id off =>
          simp only [Option.some.injEq] at hd; subst hd
          simp only [rel] at hp
          obtain ⟨h1, ⟨a, rfl⟩, h3⟩ := hp
          refine ⟨_, run _, ?_⟩
          simp only [rel]
          refine ⟨h1, ⟨_, rfl⟩, fun e cs hH => ?_⟩
          obtain ⟨b, hk, ha⟩ := h3 _ _ hH
          cases ha
          exact ⟨b, hk, by rw [addr_add0]⟩
        case eptr id n off =>
          simp only [Option.some.injEq] at hd; subst hd
          simp only [rel] at hp
          obtain ⟨h1, ⟨a, rfl⟩, h3⟩ := hp
          refine ⟨_, run _, ?_⟩
          simp only [rel]
          refine ⟨h1, ⟨_, rfl⟩, fun e k cs hH => ⟨(h3 _ _ _ hH).1, fun hnk => ?_⟩⟩
          obtain ⟨b, hk, ha⟩ := (h3 _ _ _ hH).2 hnk
          cases ha
          exact ⟨b, hk, by rw [addr_add0]⟩
        case rptr d' =>
          cases d' <;> first | (cases hd; done) | skip
          rename_i ds
          simp only [Option.map_eq_some_iff] at hd
          obtain ⟨d', hd', rfl⟩ := hd
          simp only [rel] at hp
          obtain ⟨a, u, rfl, ⟨vs, rfl, hr, h1⟩, hc⟩ := hp
          obtain ⟨u', hu', hsub, _, _⟩ := takeD_val hd' hr h1
          refine ⟨_, run _, ?_⟩
          simp only [rel]
          refine ⟨_, u', rfl, hu', fun j c hj => ?_⟩
          rw [addr_add_add]
          exact hc _ _ (by simpa [Value.cells] using hsub j c hj)

end Go.Proofs.Ytjibdljdkgedcaa.Abs
