/-
  Maps: made, looked into, updated. No condition.
-/
import Derived.Test.YtjibdljdkgedcaaAbs8b
import Derived.MapKept
import Derived.Laws.RangeString
import Derived.Laws.IdiomStrings
import Derived.Laws.BytesArg
import Derived.Lib.OthersKept
set_option linter.unusedSimpArgs false
set_option linter.unusedVariables false
namespace Go.Proofs.Ytjibdljdkgedcaa.Abs
open Go.RowKit
variable {P : Program}

theorem setVal_keys : ∀ (es : List (D × D)) (i : Nat) (x : D), (setVal es i x).map (·.1) = es.map (·.1)
  | [], _, _ => rfl
  | _ :: _, 0, _ => rfl
  | e :: es, i + 1, x => by simp [setVal, setVal_keys es i x]
theorem setVal_vals : ∀ (es : List (D × D)) (i : Nat) (x : D), (setVal es i x).map (·.2) = (es.map (·.2)).set i x
  | [], _, _ => rfl
  | _ :: _, 0, _ => rfl
  | e :: es, i + 1, x => by simp [setVal, setVal_vals es i x]

/-- An entry that was found. -/
def FoundAt (s : RS) (l : List MapEntry) (i0 : Nat) : Option (Nat × D) → Option (Nat × Value) → Prop
  | none, o => o = none
  | some (i, d), o => ∃ e, l[i]? = some e ∧ o = some (i0 + i, e.val) ∧ rel s d e.val

theorem findAsking_sound {s : RS} {w : World} {kt : TypeId} {k : D} {kv : Value} (hk : rel s k kv) : ∀ (es : List (D × D)) (l : List MapEntry) (i0 : Nat) (r : Option (Nat × D)), findD P kt k es = some r →
    relAll s (es.map (·.1)) (l.map (·.key)) → relAll s (es.map (·.2)) (l.map (·.val)) → ∃ o, (Instr.findAsking kt kv l i0).run P w = .ok o w ∧ FoundAt s l i0 r o
  | [], l, i0, r, h, h1, h2 => by
    simp only [findD, Option.some.injEq] at h; subst h
    simp only [List.map_nil, relAll, List.map_eq_nil_iff] at h1; subst h1
    exact ⟨none, rfl, rfl⟩
  | (k', d) :: es, l, i0, r, h, h1, h2 => by
    cases l with
    | nil => simp [relAll] at h1
    | cons e l =>
      simp only [List.map_cons, relAll] at h1 h2
      obtain ⟨v1, r1, e1, hk1, hr1⟩ := h1
      obtain ⟨v2, r2, e2, hd2, hr2⟩ := h2
      simp only [List.cons.injEq] at e1 e2
      obtain ⟨rfl, rfl⟩ := e1
      obtain ⟨rfl, rfl⟩ := e2
      simp only [findD] at h
      have heq : ∀ b, eqK P kt k k' = some b → (Op.equal kt kv e.key).run P w = .ok b w := fun b hb => by
        unfold eqK at hb
        split at hb
        · exact eqD_sound s 8 10000 kt k k' kv e.key b (by decide) hb hk hk1 w
        · cases hb
      cases hc : eqK P kt k k' with
      | none => rw [hc] at h; cases h
      | some b =>
        rw [hc] at h
        cases b with
        | true =>
          simp only [Option.some.injEq] at h; subst h
          refine ⟨some (i0, e.val), ?_, e, rfl, rfl, hd2⟩
          simp only [Instr.findAsking, Sem.run_bind, heq _ hc, Result.andThen_ok, if_true, Sem.run_pure]
        | false =>
          simp only [Option.map_eq_some_iff] at h
          obtain ⟨r', h', rfl⟩ := h
          obtain ⟨o, ho, hf⟩ := findAsking_sound hk es l (i0 + 1) r' h' hr1 hr2
          refine ⟨o, ?_, ?_⟩
          · simp only [Instr.findAsking, Sem.run_bind, heq _ hc, Result.andThen_ok, Bool.false_eq_true, if_false]
            exact ho
          · cases r' with
            | none => exact hf
            | some q =>
              obtain ⟨i, dd⟩ := q
              obtain ⟨e', g1, g2, g3⟩ := hf
              exact ⟨e', by simpa using g1, by rw [g2]; congr 2; omega, g3⟩

theorem findNow_sound {s : RS} {kt : TypeId} {td : TypeDesc} (hu : P.underlying kt = some td) (htd : (∃ k, td = .int k) ∨ td = .string ∨ td = .bool) {k : D} {kv : Value} (hk : rel s k kv) : ∀ (es : List (D × D)) (l : List MapEntry) (i0 : Nat) (r : Option (Nat × D)), findD P kt k es = some r →
    relAll s (es.map (·.1)) (l.map (·.key)) → relAll s (es.map (·.2)) (l.map (·.val)) → ∃ o, Instr.findNow td kv l i0 = some o ∧ FoundAt s l i0 r o
  | [], l, i0, r, h, h1, h2 => by
    simp only [findD, Option.some.injEq] at h; subst h
    simp only [List.map_nil, relAll, List.map_eq_nil_iff] at h1; subst h1
    exact ⟨none, rfl, rfl⟩
  | (k', d) :: es, l, i0, r, h, h1, h2 => by
    cases l with
    | nil => simp [relAll] at h1
    | cons e l =>
      simp only [List.map_cons, relAll] at h1 h2
      obtain ⟨v1, r1, e1, hk1, hr1⟩ := h1
      obtain ⟨v2, r2, e2, hd2, hr2⟩ := h2
      simp only [List.cons.injEq] at e1 e2
      obtain ⟨rfl, rfl⟩ := e1
      obtain ⟨rfl, rfl⟩ := e2
      simp only [findD] at h
      have heq : ∀ b, eqK P kt k k' = some b → Instr.sameNow td kv e.key = some b := fun b hb => by
        unfold eqK at hb
        split at hb
        · simp only [eqD, hu] at hb
          rcases htd with ⟨kk, rfl⟩ | rfl | rfl
          · split at hb <;> first | (cases hb; done) | skip
            all_goals simp_all [rel, Instr.sameNow]
          · split at hb <;> first | (cases hb; done) | skip
            all_goals simp_all [rel, Instr.sameNow]
            all_goals (rw [← hb, Bool.eq_iff_iff, decide_eq_true_iff, MapKept.bytes_beq])
          · split at hb <;> first | (cases hb; done) | skip
            all_goals simp_all [rel, Instr.sameNow]
        · cases hb
      cases hc : eqK P kt k k' with
      | none => rw [hc] at h; cases h
      | some b =>
        rw [hc] at h
        cases b with
        | true =>
          simp only [Option.some.injEq] at h; subst h
          refine ⟨some (i0, e.val), ?_, e, rfl, rfl, hd2⟩
          simp only [Instr.findNow, heq _ hc]
        | false =>
          simp only [Option.map_eq_some_iff] at h
          obtain ⟨r', h', rfl⟩ := h
          obtain ⟨o, ho, hf⟩ := findNow_sound hu htd hk es l (i0 + 1) r' h' hr1 hr2
          refine ⟨o, ?_, ?_⟩
          · simp only [Instr.findNow, heq _ hc]
            exact ho
          · cases r' with
            | none => exact hf
            | some q =>
              obtain ⟨i, dd⟩ := q
              obtain ⟨e', g1, g2, g3⟩ := hf
              exact ⟨e', by simpa using g1, by rw [g2]; congr 2; omega, g3⟩

theorem keyT_cases {kt : TypeId} (h : keyT P kt = true) : ∃ td, P.underlying kt = some td ∧ (((∃ k, td = .int k) ∨ td = .string ∨ td = .bool) ∨ ∃ fs, td = .struct fs ∧ tilesK P fs.toList 0 (sizeT P kt) = true) := by
  unfold keyT at h
  split at h
  · exact ⟨_, ‹_›, .inl (.inl ⟨_, rfl⟩)⟩
  · exact ⟨_, ‹_›, .inl (.inr (.inl rfl))⟩
  · exact ⟨_, ‹_›, .inl (.inr (.inr rfl))⟩
  · exact ⟨_, ‹_›, .inr ⟨_, rfl, h⟩⟩
  · cases h

theorem findKey_sound {s : RS} {w : World} {kt : TypeId} {k : D} {kv : Value} (ht : keyT P kt = true) (hk : rel s k kv) {es : List (D × D)} {l : List MapEntry} {r : Option (Nat × D)} (h : findD P kt k es = some r)
    (h1 : relAll s (es.map (·.1)) (l.map (·.key))) (h2 : relAll s (es.map (·.2)) (l.map (·.val))) : ∃ o, (Instr.findKey kt kv l).run P w = .ok o w ∧ FoundAt s l 0 r o := by
  obtain ⟨td, hu, hc | ⟨fs, rfl, _⟩⟩ := keyT_cases ht
  · obtain ⟨o, ho, hf⟩ := findNow_sound hu hc hk es l 0 r h h1 h2
    exact ⟨o, by simp [Instr.findKey, run_underlying hu, ho], hf⟩
  · obtain ⟨o, ho, hf⟩ := findAsking_sound (w := w) hk es l 0 r h h1 h2
    refine ⟨o, ?_, hf⟩
    cases l with
    | nil => simpa [Instr.findKey, run_underlying hu, Instr.findNow, Instr.findAsking] using ho
    | cons e l =>
      have : Instr.findNow (.struct fs) kv (e :: l) 0 = none := by simp [Instr.findNow, Instr.sameNow]
      simp only [Instr.findKey, Sem.run_bind, run_underlying hu, Result.andThen_ok, this]
      exact ho

def leafV (u : Value) : Prop := (∃ k n, u = .int k n) ∨ (∃ x, u = .string x) ∨ ∃ b, u = .bool b
theorem leaf_same {u : Value} (h : leafV u) (n : Nat) : Instr.sameBits n u u = true := by
  rcases h with ⟨k, m, rfl⟩ | ⟨x, rfl⟩ | ⟨b, rfl⟩
  · simp [Instr.sameBits]
  · simp only [Instr.sameBits]; exact (MapKept.bytes_beq x x).2 rfl
  · simp [Instr.sameBits]
theorem leafT_cases {t : TypeId} (h : leafT P t = true) : ∃ td, P.underlying t = some td ∧ ((∃ k, td = .int k) ∨ td = .string ∨ td = .bool) := by
  unfold leafT at h
  split at h
  · exact ⟨_, ‹_›, .inl ⟨_, rfl⟩⟩
  · exact ⟨_, ‹_›, .inr (.inl rfl)⟩
  · exact ⟨_, ‹_›, .inr (.inr rfl)⟩
  · cases h
theorem leafT_one {t : TypeId} (h : leafT P t = true) : isAggT P t = false ∧ isOneT P t = true := by
  obtain ⟨td, hu, ⟨k, rfl⟩ | rfl | rfl⟩ := leafT_cases h <;> simp [isAggT, isOneT, hu]
theorem eq_leaf {s : RS} {t : TypeId} {d : Nat} {a b : D} {u v : Value} (ht : leafT P t = true) (h : eqD P (d + 1) t a b = some true) (ha : rel s a u) (hb : rel s b v) : u = v ∧ leafV u := by
  obtain ⟨td, hu, hc⟩ := leafT_cases ht
  simp only [eqD, hu] at h
  rcases hc with ⟨kk, rfl⟩ | rfl | rfl
  · split at h <;> first | (cases h; done) | skip
    all_goals simp_all [rel, leafV]
  · split at h <;> first | (cases h; done) | skip
    all_goals simp_all [rel, leafV]
  · split at h <;> first | (cases h; done) | skip
    all_goals simp_all [rel, leafV]
theorem takeD_leaf {t : TypeId} (h : leafT P t = true) (cs : List D) (off : Nat) : takeD P t cs off = cs[off]? := by
  obtain ⟨h1, h2⟩ := leafT_one h
  unfold takeD
  rw [h1, h2]; rfl
theorem tiles_same {s : RS} {n d : Nat} {xs ys : List D} {vs us : List Value} (hx : relAll s xs vs) (hy : relAll s ys us) : ∀ (l : List Field) (off : Nat), tilesK P l off n = true → eqFieldsD (eqD P (d + 1)) P xs ys l = some true →
    ∀ j, off ≤ j → j < n → ∃ u, vs[j]? = some u ∧ us[j]? = some u ∧ leafV u
  | [], off, ht, _, j, h1, h2 => by
    simp only [tilesK, beq_iff_eq] at ht; omega
  | f :: l, off, ht, he, j, h1, h2 => by
    simp only [tilesK, Bool.and_eq_true, beq_iff_eq, decide_eq_true_eq] at ht
    obtain ⟨⟨⟨⟨h3, h4⟩, h5⟩, _⟩, h7⟩ := ht
    simp only [eqFieldsD] at he
    rw [if_pos h4, takeD_leaf h5, takeD_leaf h5, h3] at he
    cases hxo : xs[off]? with
    | none => rw [hxo] at he; cases he
    | some a =>
      cases hyo : ys[off]? with
      | none => rw [hxo, hyo] at he; cases he
      | some b =>
        rw [hxo, hyo] at he
        simp only at he
        cases hab : eqD P (d + 1) f.type a b with
        | none => rw [hab] at he; cases he
        | some r =>
          rw [hab] at he
          simp only at he
          split at he
          · rename_i hr
            subst hr
            by_cases hj : j = off
            · subst hj
              obtain ⟨u, hu, hru⟩ := relAll_get hx _ _ hxo
              obtain ⟨v, hv, hrv⟩ := relAll_get hy _ _ hyo
              obtain ⟨e, hl⟩ := eq_leaf h5 hab hru hrv
              exact ⟨u, hu, by rw [e]; exact hv, hl⟩
            · exact tiles_same hx hy l (off + 1) h7 he j (by omega) h2
          · cases he
theorem fits_len {t : TypeId} {ds : List D} (h : fitsD P t (.agg ds) = true) : ds.length = sizeT P t := by
  simp only [fitsD, Bool.and_eq_true, beq_iff_eq] at h; exact h.2
theorem eqD_two {d : Nat} {t : TypeId} {x y : D} : eqD P (d + 2) t x y = match P.underlying t, x, y with
    | some .bool, .bool a, .bool b => some (a == b)
    | some (.int _), .int k a, .int k' b => if k = k' then some (a == b) else none
    | some .string, .str a, .str b => some (decide (a = b))
    | some (.struct fs), .agg xs, .agg ys => if P.stoodInHeld t = false then eqFieldsD (eqD P (d + 1)) P xs ys fs.toList else none
    | _, _, _ => none := rfl
theorem same_key0 {s : RS} {kt : TypeId} {k k' : D} {v v' : Value} (ht : keyT P kt = true) (d : Nat) (h : eqD P (d + 2) kt k k' = some true) (hfit : fitsD P kt k = true ∧ fitsD P kt k' = true) (hk : rel s k v) (hk' : rel s k' v') : v = v' ∧ Instr.sameBits 10000 v v = true := by
  · obtain ⟨td, hu, hc | ⟨fs, rfl, htl⟩⟩ := keyT_cases ht
    · have hl : leafT P kt = true := by
        unfold leafT; rw [hu]
        rcases hc with ⟨kk, rfl⟩ | rfl | rfl <;> rfl
      obtain ⟨e, hlv⟩ := eq_leaf hl h hk hk'
      exact ⟨e, leaf_same hlv _⟩
    · simp only [eqD_two, hu] at h
      split at h <;> first | (cases h; done) | skip
      all_goals first | (simp only [reduceCtorEq, Option.some.injEq] at *; done) | skip
      rename_i fs' xs ys hfs
      split at h
      · simp only [Option.some.injEq, TypeDesc.struct.injEq] at hfs
        subst hfs
        simp only [rel] at hk hk'
        obtain ⟨vs, rfl, hr1, _⟩ := hk
        obtain ⟨us, rfl, hr2, _⟩ := hk'
        have l1 := fits_len hfit.1
        have l2 := fits_len hfit.2
        have m1 := relAll_length hr1
        have m2 := relAll_length hr2
        have key := tiles_same hr1 hr2 fs.toList 0 htl h
        have e : vs = us := by
          apply List.ext_getElem?
          intro j
          by_cases hj : j < sizeT P kt
          · obtain ⟨u, h1, h2, _⟩ := key j (Nat.zero_le _) hj
            rw [h1, h2]
          · rw [List.getElem?_eq_none (by omega), List.getElem?_eq_none (by omega)]
        refine ⟨by rw [e], ?_⟩
        have hall : ∀ x ∈ vs, leafV x := by
          intro x hx
          obtain ⟨j, hj, rfl⟩ := List.mem_iff_getElem.1 hx
          obtain ⟨u, h1, _, h3⟩ := key j (Nat.zero_le _) (by omega)
          rw [List.getElem?_eq_getElem hj, Option.some.injEq] at h1
          rw [h1]; exact h3
        show Instr.sameBits (9999 + 1) _ _ = true
        simp only [Instr.sameBits, beq_self_eq_true, Bool.true_and, List.all_eq_true]
        rintro ⟨x, y⟩ hxy
        have hxy' := hxy
        rw [List.mem_iff_getElem] at hxy
        obtain ⟨j, hj, he⟩ := hxy
        rw [List.getElem_zip, Prod.mk.injEq] at he
        obtain ⟨rfl, rfl⟩ := he
        exact leaf_same (hall _ (by simp)) _
      · cases h
theorem same_key {s : RS} {kt : TypeId} {k k' : D} {v v' : Value} (ht : keyT P kt = true) (h : eqK P kt k k' = some true) (hk : rel s k v) (hk' : rel s k' v') : v = v' ∧ Instr.sameBits 10000 v v = true := by
  unfold eqK at h
  split at h
  · rename_i hfit
    exact same_key0 ht 6 h hfit hk hk'
  · cases h

theorem run_checkLeaf {w : World} {t : TypeId} {v : Value} (h : leafT P t = true) (e : Bool) (n : Nat) : (Instr.checkKey e (n + 1) t v).run P w = .ok () w := by
  obtain ⟨td, hu, hc⟩ := leafT_cases h
  unfold Instr.checkKey
  simp only [Sem.run_bind, run_underlying hu, Result.andThen_ok]
  rcases hc with ⟨kk, rfl⟩ | rfl | rfl <;> cases v <;> rfl
theorem run_checkFields {s : RS} {w : World} {n k : Nat} {xs : List D} {vs : List Value} (hr : relAll s xs vs) (h1 : ones vs) (e : Bool) (hn : xs.length = n) : ∀ (l : List Field) (off : Nat), tilesK P l off n = true →
    (forIn l PUnit.unit fun f (_ : PUnit) => if f.name ≠ "_" then (do
      let x ← part f.type vs.toArray f.offset
      Instr.checkKey e (k + 1) f.type x
      pure (ForInStep.yield PUnit.unit)) else pure (ForInStep.yield PUnit.unit) : Sem PUnit).run P w = .ok PUnit.unit w
  | [], _, _ => by simp
  | f :: l, off, ht => by
    simp only [tilesK, Bool.and_eq_true, beq_iff_eq, decide_eq_true_eq] at ht
    obtain ⟨⟨⟨⟨h3, h4⟩, h5⟩, h6⟩, h7⟩ := ht
    have hlt : off < n := by
      have key : ∀ (l : List Field) (off : Nat), tilesK P l off n = true → off ≤ n := by
        intro l
        induction l with
        | nil => intro off h; simp only [tilesK, beq_iff_eq] at h; omega
        | cons g l ih =>
          intro off h
          simp only [tilesK, Bool.and_eq_true, beq_iff_eq, decide_eq_true_eq] at h
          have := ih _ h.2
          omega
      have := key l (off + 1) h7
      omega
    obtain ⟨u, _, _, _, hp⟩ := takeD_val (P := P) (t := f.type) (off := off) (d := xs[off]'(by omega)) (by rw [takeD_leaf h5, List.getElem?_eq_getElem]) hr h1
    have ih := run_checkFields (w := w) (k := k) hr h1 e hn l (off + 1) h7
    simp only [List.forIn_cons, Sem.run_bind, h3, hp, Result.andThen_ok]
    simp only [h4, ne_eq, not_false_eq_true, if_true, Sem.run_bind, hp, Result.andThen_ok, run_checkLeaf h5, Sem.run_pure]
    exact ih
theorem run_checkKey' {s : RS} {w : World} {kt : TypeId} {k : D} {kv : Value} (ht : keyT P kt = true) (hf : fitsD P kt k = true) (hk : rel s k kv) (e : Bool) : (Instr.checkKey e 10000 kt kv).run P w = .ok () w := by
  obtain ⟨td, hu, hc | ⟨fs, rfl, htl⟩⟩ := keyT_cases ht
  · have hl : leafT P kt = true := by
      unfold leafT; rw [hu]
      rcases hc with ⟨kk, rfl⟩ | rfl | rfl <;> rfl
    exact run_checkLeaf hl e 9999
  · have hag : isAggT P kt = true := by simp [isAggT, hu]
    have hone : isOneT P kt = false := by simp [isOneT, hu]
    unfold fitsD at hf
    split at hf
    · rename_i ds
      simp only [Bool.and_eq_true, beq_iff_eq] at hf
      simp only [rel] at hk
      obtain ⟨vs, rfl, hr, h1⟩ := hk
      have := run_checkFields (w := w) (k := 9998) hr h1 e hf.2 fs.toList 0 htl
      show (Instr.checkKey e (9999 + 1) kt _).run P w = _
      unfold Instr.checkKey
      simp only [Sem.run_bind, run_underlying hu, Result.andThen_ok]
      rw [← Array.forIn_toList]
      have e2 : (Sem.run P (forIn fs.toList PUnit.unit fun f (_ : PUnit) => if f.name ≠ "_" then (do
        let x ← part f.type vs.toArray f.offset
        Instr.checkKey e (9998 + 1) f.type x
        pure (ForInStep.yield PUnit.unit)) else pure (ForInStep.yield PUnit.unit)) w) = .ok PUnit.unit w := this
      rw [e2]; rfl
    · cases hf
    · cases hf
    · rw [hone] at hf; cases hf

/-- The map of an object. -/
theorem map_obj {s : RS} {w : World} (h : RH P s w) {id : Nat} {es : List (D × D)} (hid : s.H id = some (.map es)) :
    ∃ r ens clock, s.κ id = .map (some r) ∧ w.heap[r]? = some (.map ens clock) ∧ relAll s (es.map (·.1)) (ens.toList.map (·.key)) ∧ relAll s (es.map (·.2)) (ens.toList.map (·.val)) := (h.obj id _ hid).2

theorem run_zeroD {t : TypeId} {d : D} (h : zeroD P t = some d) : ∃ z : Value, (∀ w, (zeroValue t).run P w = .ok z w) ∧ ∀ s, rel s d z := by
  unfold zeroD at h
  simp only [Option.map_eq_some_iff, Option.bind_eq_some_iff] at h
  obtain ⟨z, ⟨i, hi, hz⟩, rfl⟩ := h
  exact ⟨z, fun w => by simp [zeroValue, typeInfo, hi, hz], fun s => rel_ofVal s z⟩

theorem run_lookup_some {w : World} {t kt et : TypeId} {xv kv v : Value} {ok : Bool} {i : Nat} {ens : Array MapEntry} (hmt : P.underlying t = some (.map kt et)) (hx : (xv = .map none ∧ ens = #[]) ∨ ∃ r clock, xv = .map (some r) ∧ w.heap[r]? = some (.map ens clock))
    (hck : (Instr.checkKey ens.isEmpty 10000 kt kv).run P w = .ok () w) (ho : (Instr.findKey kt kv ens.toList).run P w = .ok (some (i, v)) w) : (Instr.lookup t xv kv ok).run P w = .ok (if ok = true then .tuple #[v, .bool true] else v) w := by
  rcases hx with ⟨rfl, rfl⟩ | ⟨r, clock, rfl, hh⟩
  · simp at hck ho
    simp [Instr.lookup, run_underlying hmt, hck, ho]
  · simp [Instr.lookup, run_underlying hmt, MapKept.run_getObj_map hh, hck, ho]
theorem run_lookup_none {w : World} {t kt et : TypeId} {xv kv z : Value} {ok : Bool} {ens : Array MapEntry} (hmt : P.underlying t = some (.map kt et)) (hx : (xv = .map none ∧ ens = #[]) ∨ ∃ r clock, xv = .map (some r) ∧ w.heap[r]? = some (.map ens clock))
    (hck : (Instr.checkKey ens.isEmpty 10000 kt kv).run P w = .ok () w) (ho : (Instr.findKey kt kv ens.toList).run P w = .ok none w) (hz : (zeroValue et).run P w = .ok z w) : (Instr.lookup t xv kv ok).run P w = .ok (if ok = true then .tuple #[z, .bool false] else z) w := by
  rcases hx with ⟨rfl, rfl⟩ | ⟨r, clock, rfl, hh⟩
  · simp at hck ho
    simp [Instr.lookup, run_underlying hmt, hck, ho, hz]
  · simp [Instr.lookup, run_underlying hmt, MapKept.run_getObj_map hh, hck, ho, hz]
theorem lookup_sound {s : RS} {w : World} (h : RH P s w) {t : TypeId} {x k d : D} {ok : Bool} {xv kv : Value} (hd : lookupD P s.H t x k ok = some d) (hx : rel s x xv) (hk : rel s k kv) :
    ∃ u, (Instr.lookup t xv kv ok).run P w = .ok u w ∧ rel s d u := by
  unfold lookupD at hd
  split at hd
  · rename_i kt et es hm hes
    split at hd
    · rename_i hc
      have hmt := mapT_some hm
      obtain ⟨ens, hxe, h1, h2⟩ : ∃ ens : Array MapEntry, ((xv = .map none ∧ ens = #[]) ∨ ∃ r clock, xv = .map (some r) ∧ w.heap[r]? = some (.map ens clock)) ∧ relAll s (es.map (·.1)) (ens.toList.map (·.key)) ∧ relAll s (es.map (·.2)) (ens.toList.map (·.val)) := by
        unfold esD at hes
        split at hes
        · simp only [Option.some.injEq] at hes; subst hes
          simp only [rel] at hx; subst hx
          exact ⟨#[], .inl ⟨rfl, rfl⟩, by simp [relAll], by simp [relAll]⟩
        · rename_i id
          split at hes
          · rename_i es' hH
            simp only [Option.some.injEq] at hes; subst hes
            obtain ⟨r, ens, clock, hκ, hheap, h1, h2⟩ := map_obj h hH
            simp only [rel] at hx
            have hxv := hx.2.2 _ hH
            rw [hκ] at hxv; subst hxv
            exact ⟨ens, .inr ⟨r, clock, rfl, hheap⟩, h1, h2⟩
          · cases hes
        · cases hes
      cases hf : findD P kt k es with
      | none => rw [hf] at hd; cases hd
      | some r =>
        rw [hf] at hd
        obtain ⟨o, ho, hfo⟩ := findKey_sound (w := w) hc.1 hk hf h1 h2
        have hck := run_checkKey' (w := w) hc.1 hc.2 hk ens.isEmpty
        cases r with
        | none =>
          simp only [lookR, Option.map_eq_some_iff] at hd
          obtain ⟨z, hz, rfl⟩ := hd
          obtain ⟨zv, hzr, hzrel⟩ := run_zeroD hz
          have hfo : o = none := hfo
          subst hfo
          refine ⟨_, run_lookup_none hmt hxe hck ho (hzr w), ?_⟩
          cases ok
          · simpa using hzrel s
          · simp only [if_true, rel]; exact ⟨[zv, .bool false], rfl, relAll_cons (hzrel s) (relAll_cons (by simp [rel]) relAll_nil)⟩
        | some q =>
          obtain ⟨i, v⟩ := q
          simp only [lookR, Option.some.injEq] at hd
          obtain ⟨e, _, rfl, hrel⟩ := hfo
          refine ⟨_, run_lookup_some hmt hxe hck ho, ?_⟩
          cases ok
          · simp only [Bool.false_eq_true, if_false] at hd ⊢
            subst hd; exact hrel
          · simp only [if_true] at hd ⊢
            subst hd
            simp only [rel]; exact ⟨[e.val, .bool true], rfl, relAll_cons hrel (relAll_cons (by simp [rel]) relAll_nil)⟩
    · cases hd
  · cases hd

theorem found_key {kt : TypeId} {k : D} : ∀ {es : List (D × D)} {i : Nat} {v : D}, findD P kt k es = some (some (i, v)) → ∃ k', (es.map (·.1))[i]? = some k' ∧ eqK P kt k k' = some true
  | [], i, v, h => by simp [findD] at h
  | (k', d) :: es, i, v, h => by
    simp only [findD] at h
    cases hc : eqK P kt k k' with
    | none => rw [hc] at h; cases h
    | some b =>
      rw [hc] at h
      cases b with
      | true =>
        simp only [Option.some.injEq, Prod.mk.injEq] at h
        obtain ⟨rfl, rfl⟩ := h
        exact ⟨k', rfl, hc⟩
      | false =>
        cases hq : findD P kt k es with
        | none => simp only [hq] at h; cases h
        | some q =>
          cases q with
          | none => simp only [hq] at h; cases h
          | some q =>
            simp only [hq, Option.map_some, Option.some.injEq, Prod.mk.injEq] at h
            obtain ⟨rfl, rfl⟩ := h
            obtain ⟨k2, g1, g2⟩ := found_key (i := q.1) (v := q.2) hq
            exact ⟨k2, by simpa using g1, g2⟩
theorem setIf_heap {w : World} {r : Nat} {o o' : Obj} (hb : w.heap[r]? = some o) : ({ w with heap := w.heap.setIfInBounds r o' } : World).heap[r]? = some o' ∧ ∀ k, k ≠ r → ({ w with heap := w.heap.setIfInBounds r o' } : World).heap[k]? = w.heap[k]? := MapKept.heap_set hb

theorem update_sound {s : RS} {w : World} (h : RH P s w) {t : TypeId} {m k x : D} {mv kv xv : Value} {H : HM} (hd : updateD P s.H t m k x = some H) (hm : rel s m mv) (hk : rel s k kv) (hx : rel s x xv) :
    ∃ s' w', (Instr.mapUpdate t mv kv xv).run P w = .ok () w' ∧ Step s w s' w' ∧ RH P s' w' ∧ s'.H = H ∧ s'.nx = s.nx := by
  unfold updateD at hd
  split at hd
  · rename_i kt et id hmt
    split at hd
    · rename_i es hH
      split at hd
      · rename_i hc
        simp only [Option.map_eq_some_iff] at hd
        obtain ⟨o', ho', rfl⟩ := hd
        have hmt := mapT_some hmt
        obtain ⟨r, ens, clock, hκ, hheap, h1, h2⟩ := map_obj h hH
        simp only [rel] at hm
        have hmv := hm.2.2 _ hH
        rw [hκ] at hmv; subst hmv
        have hck := run_checkKey' (w := w) hc.1 hc.2 hk false
        have hrlt : r < w.heap.size := lt_of_heap hheap
        have fin : ∀ (es' : List (D × D)) (ens' : Array MapEntry) (clock' : Nat), (Instr.mapUpdate t (.map (some r)) kv xv).run P w = .ok () { w with heap := w.heap.setIfInBounds r (.map ens' clock') } →
            relAll s (es'.map (·.1)) (ens'.toList.map (·.key)) → relAll s (es'.map (·.2)) (ens'.toList.map (·.val)) →
            ∃ s' w', (Instr.mapUpdate t (.map (some r)) kv xv).run P w = .ok () w' ∧ Step s w s' w' ∧ RH P s' w' ∧ s'.H = updH s.H id (some (.map es')) ∧ s'.nx = s.nx := by
          intro es' ens' clock' hrun hr1 hr2
          obtain ⟨hs1, hs2⟩ := setIf_heap (o' := .map ens' clock') hheap
          obtain ⟨g1, g2⟩ := set_obj (w' := { w with heap := w.heap.setIfInBounds r (.map ens' clock') }) h id (.map es) (.map es') (s.κ id) hH rfl rfl rfl (by simp)
            (fun k hk hne => hs2 k (fun e => hne (by rw [hκ, e]; rfl))) (.inr ⟨es', rfl, rfl⟩) (fun b hb => .inl hb)
            (fun hl => ⟨r, ens', clock', hκ, hs1, relAll.later hl _ _ hr1, relAll.later hl _ _ hr2⟩)
          exact ⟨_, _, hrun, g1, g2, rfl, rfl⟩
        cases hf : findD P kt k es with
        | none => rw [hf] at ho'; cases ho'
        | some q =>
          rw [hf] at ho'
          obtain ⟨o, ho, hfo⟩ := findKey_sound (w := w) hc.1 hk hf h1 h2
          cases q with
          | none =>
            simp only [updR, Option.some.injEq] at ho'; subst ho'
            have hfo : o = none := hfo
            subst hfo
            refine fin (es ++ [(k, x)]) (ens.push { key := kv, val := xv, born := clock }) (clock + 1) ?_ ?_ ?_
            · simp [Instr.mapUpdate, run_underlying hmt, MapKept.run_getObj_map hheap, hck, ho, MapKept.run_setObj_map _ hheap]
            · simpa using relAll_append h1 (relAll_cons hk relAll_nil)
            · simpa using relAll_append h2 (relAll_cons hx relAll_nil)
          | some q =>
            obtain ⟨i, v⟩ := q
            simp only [updR, Option.some.injEq] at ho'; subst ho'
            obtain ⟨e, hei, rfl, _⟩ := hfo
            rw [Nat.zero_add] at ho
            have hei' : ens[i]? = some e := by simpa using hei
            obtain ⟨k', hk'1, hk'2⟩ := found_key hf
            have hrk' : rel s k' e.key := by
              obtain ⟨u, hu1, hu2⟩ := relAll_get h1 i k' hk'1
              rw [List.getElem?_map, hei, Option.map_some, Option.some.injEq] at hu1
              rw [hu1]; exact hu2
            obtain ⟨hsame, hbits⟩ := same_key hc.1 hk'2 hk hrk'
            have hkts : (Instr.keyThatStays e.key kv).run P w = .ok kv w := by
              rw [← hsame]; simp [Instr.keyThatStays, hbits]
            refine fin (setVal es i x) (ens.modify i fun e => { e with key := kv, val := xv }) clock ?_ ?_ ?_
            · simp [Instr.mapUpdate, run_underlying hmt, MapKept.run_getObj_map hheap, hck, ho, hei', hkts, MapKept.run_setObj_map _ hheap]
            · rw [setVal_keys]
              have : (ens.modify i fun e => { e with key := kv, val := xv }).toList.map (·.key) = ens.toList.map (·.key) := MapKept.modify_keys i _ (fun e' he' => by rw [hei'] at he'; cases he'; exact hsame)
              rw [this]; exact h1
            · rw [setVal_vals]
              have : (ens.modify i fun e => { e with key := kv, val := xv }).toList.map (·.val) = (ens.toList.map (·.val)).set i xv := by
                apply List.ext_getElem?
                intro j
                simp only [List.getElem?_map, Array.getElem?_toList, Array.getElem?_modify, List.getElem?_set, List.length_map, Array.length_toList]
                by_cases hij : i = j
                · subst hij
                  have hlt : i < ens.size := (Array.getElem?_eq_some_iff.1 hei').1
                  simp [hei', hlt]
                · simp [hij]
              rw [this]; exact relAll_set h2 i hx
      · cases hd
    · cases hd
  · cases hd

theorem makeMap_sound {s : RS} {w : World} (h : RH P s w) (t : TypeId) :
    ∃ v s' w', (Instr.makeMap t none).run P w = .ok v w' ∧ Step s w s' w' ∧ RH P s' w' ∧ s'.H = updH s.H s.nx (some (.map [])) ∧ s'.nx = s.nx + 1 ∧ rel s' (.mp s.nx) v := by
  obtain ⟨h3, h4⟩ := new_obj h (Grew.alloc w (.map #[] 0)) (.map []) (.map (some w.heap.size)) (fun b hb => by simp only [blockOf, Option.some.injEq] at hb; omega)
    ⟨w.heap.size, #[], 0, rfl, by simpa using heap_alloc_new w (.map #[] 0), by simp [relAll], by simp [relAll]⟩
  refine ⟨.map (some w.heap.size), _, _, rfl, h3, h4, rfl, rfl, ?_⟩
  simp only [rel]
  refine ⟨by simp [RS.add], ⟨_, rfl⟩, fun es hH => by simp [RS.add]⟩
theorem range_sound {s : RS} {w : World} (h : RH P s w) {t : TypeId} {d : D} {v : Value} {q : Obj} (hd : rangeD P t d = some q) (hv : rel s d v) :
    ∃ u s' w', (Instr.range t v).run P w = .ok u w' ∧ Step s w s' w' ∧ RH P s' w' ∧ s'.H = updH s.H s.nx (some (.raw q)) ∧ s'.nx = s.nx + 1 ∧ rel s' (.it s.nx) u := by
  unfold rangeD at hd
  split at hd
  · rename_i x
    split at hd
    · rename_i ht
      cases hd
      simp only [rel] at hv; subst hv
      obtain ⟨h3, h4⟩ := new_obj h (Grew.alloc w (.stringIter x 0)) (.raw (.stringIter x 0)) (.pointer (some ⟨w.heap.size, 0, none⟩)) (fun b hb => by simp only [blockOf, Option.some.injEq] at hb; omega)
        ⟨w.heap.size, rfl, by simpa using heap_alloc_new w (.stringIter x 0)⟩
      refine ⟨_, _, _, run_range_string w t x (strT_some ht), h3, h4, rfl, rfl, ?_⟩
      simp only [rel]
      exact ⟨by simp [RS.add], ⟨_, rfl⟩, fun es hH => by simp [RS.add]⟩
    · cases hd
  · cases hd
theorem next_sound {s : RS} {w : World} (h : RH P s w) {b : Bool} {ty : TypeId} {d e : D} {v : Value} {H : HM} {nx : Nat} (hd : nextD s.H s.nx b d = some (e, H, nx)) (hv : rel s d v) :
    ∃ u s' w', (Instr.next v b ty).run P w = .ok u w' ∧ Step s w s' w' ∧ RH P s' w' ∧ s'.H = H ∧ s'.nx = nx ∧ rel s' e u := by
  unfold nextD at hd
  split at hd
  · rename_i id
    split at hd
    · rename_i x p hH
      simp only [rel] at hv
      obtain ⟨hid, _, hv⟩ := hv
      have hv := hv _ hH
      obtain ⟨_, r, hk, hh⟩ := h.obj id _ hH
      rw [hk] at hv; subst hv
      split at hd
      · rename_i hp
        simp only [Option.some.injEq, Prod.mk.injEq] at hd
        obtain ⟨rfl, rfl, rfl⟩ := hd
        obtain ⟨g1, g2⟩ := set_obj (w' := w.iterAt r x (p + (Utf8.decode x p).2)) h id _ (.raw (.stringIter x (p + (Utf8.decode x p).2))) (s.κ id) hH rfl rfl rfl (by simp [World.iterAt])
          (fun k hk' hne => by
            simp only [World.iterAt]
            rw [Array.getElem?_setIfInBounds_ne]
            intro he; exact hne (by rw [hk, ← he]; rfl))
          (.inr ⟨_, rfl, rfl⟩) (fun b hb => .inl hb) (fun _ => ⟨r, hk, Lib.iterAt_heap w r x p _ hh⟩)
        refine ⟨_, _, _, Lib.run_next_any_at w r x p ty hh hp, g1, g2, rfl, rfl, ?_⟩
        simp only [rel]
        exact ⟨_, rfl, relAll_cons (by simp [rel]) (relAll_cons (by simp [rel]) (relAll_cons (by simp [rel]) relAll_nil))⟩
      · rename_i hp
        simp only [Option.some.injEq, Prod.mk.injEq] at hd
        obtain ⟨rfl, rfl, rfl⟩ := hd
        refine ⟨_, s, w, Lib.run_next_end_at w r x p ty hh hp, Step.refl s w, h, rfl, rfl, ?_⟩
        simp only [rel]
        exact ⟨_, rfl, relAll_cons (by simp [rel]) relAll_nil⟩
    · cases hd
  · cases hd
theorem intT_some {t : TypeId} {k : IntKind} (h : intT P t = some k) : P.underlying t = some (.int k) := by
  unfold intT at h
  split at h
  · cases h; assumption
  · cases h
theorem u8T_some {t : TypeId} (h : u8T P t = true) : ∃ e, P.underlying t = some (.slice e) ∧ P.underlying e = some (.int .u8) := by
  unfold u8T at h
  split at h
  · rename_i e he
    split at h
    · rename_i hi
      exact ⟨e, elemT_some he, intT_some hi⟩
    · cases h
  · cases h
theorem unbyte_rel {s : RS} : ∀ {els : List D} {l : List UInt8} {vs : List Value}, unbyte els = some l → relAll s els vs → vs = l.map fun b => .int .u8 b.toNat
  | [], l, vs, h, hr => by simp only [unbyte, Option.some.injEq] at h; subst h; simpa [relAll] using hr
  | d :: els, l, vs, h, hr => by
    simp only [relAll] at hr
    obtain ⟨v, r, rfl, h1, h2⟩ := hr
    unfold unbyte at h
    split at h
    · rename_i he; cases he
    · rename_i n l' he
      cases he
      split at h
      · rename_i hn
        simp only [Option.map_eq_some_iff] at h
        obtain ⟨l2, h3, rfl⟩ := h
        rw [unbyte_rel h3 h2, List.map_cons]
        simp only [rel] at h1
        rw [h1]
        congr 2
        have : n.toNat < 256 := by omega
        simp [UInt8.toNat_ofNat', Nat.mod_eq_of_lt this]
        omega
      · cases h
    · cases h
theorem relAll_of_get' {s : RS} {α : Type} {f : α → D} {g : α → Value} (h : ∀ x, rel s (f x) (g x)) : ∀ (l : List α), relAll s (l.map f) (l.map g)
  | [] => relAll_nil
  | x :: l => relAll_cons (h x) (relAll_of_get' h l)
theorem convS_sound {s : RS} {w : World} (h : RH P s w) {src dst : TypeId} {d e : D} {v : Value} (hd : convS P src dst d = some e) (hv : rel s d v) :
    ∃ u s' w', (convert src dst v).run P w = .ok u w' ∧ Step s w s' w' ∧ RH P s' w' ∧ s'.H = s.H ∧ s'.nx = s.nx ∧ rel s' e u := by
  unfold convS at hd
  split at hd
  · rename_i x
    split at hd
    · rename_i hc
      obtain ⟨hc1, hc2, hc3⟩ := hc
      cases hd
      obtain ⟨el, he1, he2⟩ := u8T_some hc2
      simp only [rel] at hv; subst hv
      have hm : x.size ≤ maxLen := by unfold maxLen; omega
      have hrun := run_bytes_of_string w src dst el x (strT_some hc1) he1 he2
      have hgrew : Grew w (w.drew.alloc (.cells (bytesRow x (grownCap w x.size 0 el)) el ((bytesRow x (grownCap w x.size 0 el)).size, (bytesRow x (grownCap w x.size 0 el)).size + 1))) := Grew.of_drew (Grew.alloc _ _)
      obtain ⟨g1, g2⟩ := new_mem h hgrew
      refine ⟨_, _, _, hrun, g1, g2, rfl, rfl, ?_⟩
      have hbl : (bytesD x).length = x.size := by unfold bytesD; rw [List.length_map]; rfl
      simp only [rel]
      refine .inr ⟨⟨w.heap.size, 0, none⟩, grownCap w x.size 0 el, x.data.toList.map fun b => .int .u8 b.toNat, by rw [hbl], by rw [hbl]; exact grownCap_ge w x.size 0 el, grownCap_le_maxLen w _ 0 el hm, ?_, fun i u hu => ?_⟩
      · exact relAll_of_get' (fun b => by simp [rel]) _
      · rw [List.getElem?_map, Option.map_eq_some_iff] at hu
        obtain ⟨b, hb, rfl⟩ := hu
        refine ⟨rfl, fun j c hj => ?_⟩
        cases j with
        | succ j => simp [Value.cells] at hj
        | zero =>
          simp [Value.cells] at hj; subst hj
          show (s.grow w _).m _ = _
          have hi : i < x.data.size := by
            rcases Nat.lt_or_ge i x.data.size with h9 | h9
            · exact h9
            · rw [List.getElem?_eq_none (by simpa using h9)] at hb; cases hb
          simp only [RS.grow, addr_add0, Nat.mul_one, Nat.add_zero, Nat.zero_add]
          rw [if_neg (by simp)]
          have hnew : ∀ (C : Array Value) (q : Nat × Nat), (w.drew.alloc (.cells C el q)).cell? ⟨w.heap.size, i, none⟩ = C[i]? := fun C q => by
            have : (w.drew.alloc (.cells C el q)).heap[w.heap.size]? = some (.cells C el q) := heap_alloc_new w.drew _
            unfold World.cell?
            simp only [this]
            rfl
          rw [hnew]
          unfold bytesRow
          rw [Array.getElem?_append_left (by simpa using hi), Array.getElem?_map]
          rw [Array.getElem?_toList] at hb
          rw [hb]; rfl
    · cases hd
  · rename_i nn els
    split at hd
    · rename_i hc
      obtain ⟨hc1, hc2⟩ := hc
      obtain ⟨el, he1, he2⟩ := u8T_some hc1
      simp only [Option.map_eq_some_iff] at hd
      obtain ⟨l, hl, rfl⟩ := hd
      simp only [rel] at hv
      rcases hv with ⟨_, rfl, rfl⟩ | ⟨a, cap, vs, rfl, h2, h3, h4, h5⟩
      · simp only [unbyte, Option.some.injEq] at hl; subst hl
        refine ⟨_, s, w, run_convert_bytes_nil (w := w) src el he1 he2 0 0 dst (strT_some hc2), Step.refl s w, h, rfl, rfl, ?_⟩
        simp only [rel]; rfl
      · have hvs := unbyte_rel hl h4
        have hlen : els.length = l.length := by rw [← relAll_length h4, hvs, List.length_map]
        rw [hlen]
        refine ⟨_, s, w, run_convert_bytes_back w src dst el a cap l he1 he2 (strT_some hc2) (fun j hj => ?_), Step.refl s w, h, rfl, rfl, by simp only [rel]⟩
        have := h5 j (.int .u8 l[j].toNat) (by rw [hvs, List.getElem?_map, List.getElem?_eq_getElem hj]; rfl)
        have := this.2 0 (.int .u8 l[j].toNat) rfl
        simp only [Nat.mul_one] at this
        have := (h.mem _ _ this).1
        rw [← this]
        congr 1
    · cases hd
  · cases hd
end Go.Proofs.Ytjibdljdkgedcaa.Abs
