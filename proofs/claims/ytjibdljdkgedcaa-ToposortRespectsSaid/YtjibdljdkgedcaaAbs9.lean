/-
  The abstract operations are sound: every operation that calls no function of the program. No condition.
-/
import Derived.Test.YtjibdljdkgedcaaAbs8c
set_option linter.unusedSimpArgs false
set_option linter.unusedVariables false
namespace Go.Proofs.Ytjibdljdkgedcaa.Abs
open Go.RowKit
variable {P : Program}

theorem ran_of {s : RS} {w : World} {x : Sem Value} {d : D} (h : RH P s w) (hr : ∃ u, x.run P w = .ok u w ∧ rel s d u) : Ran P s w (do pure (.value (← x))) d s.H s.nx := by
  obtain ⟨u, h1, h2⟩ := hr
  exact ran_value h h1 h2
theorem ran_new {s : RS} {w : World} {x : Sem Value} {d : D} {H : HM} {nx : Nat} (hr : ∃ v s' w', x.run P w = .ok v w' ∧ Step s w s' w' ∧ RH P s' w' ∧ s'.H = H ∧ s'.nx = nx ∧ rel s' d v) :
    Ran P s w (do pure (.value (← x))) d H nx := by
  obtain ⟨v, s', w', h1, h2, h3, h4, h5, h6⟩ := hr
  exact ⟨v, s', w', .inl (by simp [h1]), h2, h3, h4, h5, h6⟩

theorem box_sound {s : RS} {w : World} (h : RH P s w) {e : TypeId} {d : D} {v : Value} {cs : List D} (hc : cellsD d = some cs) (hv : rel s d v) :
    ∃ u s' w', (Instr.box e v).run P w = .ok u w' ∧ Step s w s' w' ∧ RH P s' w' ∧ s'.H = updH s.H s.nx (some (.box e cs)) ∧ s'.nx = s.nx + 1 ∧ rel s' (.ptr s.nx 0) u := by
  obtain ⟨h1, h2⟩ := rel_cells hv hc
  have hl := later_add h (.pointer (some ⟨w.heap.size, 0, none⟩)) (.box e cs)
  obtain ⟨h3, h4⟩ := new_obj h (Grew.alloc w (.cells v.cells e)) (.box e cs) (.pointer (some ⟨w.heap.size, 0, none⟩)) (fun b hb => by simp only [blockOf, Option.some.injEq] at hb; omega)
    ⟨w.heap.size, v.cells.toList, rfl, by simpa using heap_alloc_new w (.cells v.cells e), relAll.later hl _ _ h1, h2⟩
  refine ⟨.pointer (some ⟨w.heap.size, 0, none⟩), _, _, ?_, h3, h4, rfl, rfl, ?_⟩
  · simp [Instr.box, newVar, newRow]
  · simp only [rel]
    refine ⟨by simp [RS.add], ⟨_, rfl⟩, fun e' cs' hH => ⟨w.heap.size, by simp [RS.add], rfl⟩⟩

theorem alloc_sound {s : RS} {w : World} (h : RH P s w) {e : TypeId} {zs : List D} (hz : zeroT P e = some zs) :
    ∃ u s' w', (Instr.alloc e true (.tuple #[])).run P w = .ok u w' ∧ Step s w s' w' ∧ RH P s' w' ∧ s'.H = updH s.H s.nx (some (.box e zs)) ∧ s'.nx = s.nx + 1 ∧ rel s' (.ptr s.nx 0) u := by
  obtain ⟨z, hzr, hzrel, hzo, _⟩ := run_zeroValue hz
  obtain ⟨h3, h4⟩ := new_obj h (Grew.alloc w (.cells z.cells e)) (.box e zs) (.pointer (some ⟨w.heap.size, 0, none⟩)) (fun b hb => by simp only [blockOf, Option.some.injEq] at hb; omega)
    ⟨w.heap.size, z.cells.toList, rfl, by simpa using heap_alloc_new w (.cells z.cells e), hzrel _, hzo⟩
  refine ⟨.pointer (some ⟨w.heap.size, 0, none⟩), _, _, ?_, h3, h4, rfl, rfl, ?_⟩
  · simp [Instr.alloc, hzr, newVar, newRow]
  · simp only [rel]
    refine ⟨by simp [RS.add], ⟨_, rfl⟩, fun e' cs' hH => ⟨w.heap.size, by simp [RS.add], rfl⟩⟩

theorem buildSlice_sound {s : RS} {w : World} (h : RH P s w) {t e : TypeId} {len : Nat} {vparts : Array (Nat × Value)} {els cs : List D} {vs : List Value} (he : elemT P t = some e) (hsz : sizeT P e ≠ 0)
    (hle : len * sizeT P e ≤ 2 ^ 24) (hz : len = 0 ∨ hasZero P e = true) (hp : vparts.toList = (List.range len).zip vs) (hl : vs.length = len) (hr : relAll s els vs) (hcs : cellsAll (sizeT P e) els = some cs) :
    (∃ u s' w', (Instr.buildSlice t len vparts).run P w = .ok u w' ∧ Step s w s' w' ∧ RH P s' w' ∧ s'.H = updH s.H s.nx (some (.row e len cs)) ∧ s'.nx = s.nx + 1 ∧ rel s' (.osl s.nx len) u) ∧
    (∃ u s' w', (Instr.buildSlice t len vparts).run P w = .ok u w' ∧ Step s w s' w' ∧ RH P s' w' ∧ s'.H = s.H ∧ s'.nx = s.nx ∧ rel s' (.rsl true (sizeT P e) els) u ∧ ∃ a, u = .slice (some a) len len) := by
  obtain ⟨h1, h2, h3⟩ := cellsAll_rel hcs hr
  have hrun := run_buildSlice (w := w) (elemT_some he) hsz hle hz hp hl h3
  have hfl := flat_length h3
  have hmax : len ≤ maxLen := by
    have : len ≤ len * sizeT P e := Nat.le_mul_of_pos_right _ (Nat.pos_of_ne_zero hsz)
    simp only [maxLen]; omega
  constructor
  · have hla := later_add h (.slice (some ⟨w.heap.size, 0, none⟩) len len) (.row e len cs)
    obtain ⟨h4, h5⟩ := new_obj h (Grew.alloc w (.cells (vs.flatMap (·.cells.toList)).toArray e)) (.row e len cs) (.slice (some ⟨w.heap.size, 0, none⟩) len len)
      (fun b hb => by simp only [blockOf, Option.some.injEq] at hb; omega)
      ⟨vs.flatMap (·.cells.toList), ⟨by rw [hfl, hl], .inr ⟨w.heap.size, len, _, rfl, Nat.zero_le _, heap_alloc_new w _, Nat.le_refl _, hmax, by simp only [List.size_toArray]; rw [hfl, hl], by
        rw [List.take_of_length_le (by rw [List.toList_toArray, hfl, hl]; exact Nat.le_refl _)]⟩⟩, relAll.later hla _ _ h1, h2⟩
    refine ⟨_, _, _, hrun, h4, h5, rfl, rfl, ?_⟩
    simp only [rel]
    refine ⟨by simp [RS.add], ⟨_, _, rfl⟩, fun e' k cs' hH => ?_⟩
    simp only [RS.add, updH, if_true, Option.some.injEq, HObj.row.injEq] at hH
    obtain ⟨_, rfl, _⟩ := hH
    exact ⟨Nat.le_refl _, fun _ => by simp [RS.add]⟩
  · obtain ⟨h4, h5⟩ := new_mem h (Grew.alloc w (.cells (vs.flatMap (·.cells.toList)).toArray e))
    refine ⟨_, _, _, hrun, h4, h5, rfl, rfl, ?_⟩
    refine ⟨?_, ⟨_, rfl⟩⟩
    simp only [rel]
    have hlen := relAll_length hr
    refine .inr ⟨⟨w.heap.size, 0, none⟩, len, vs, by rw [← hlen, hl], by omega, hmax, relAll.later h4.later _ _ hr, fun i v hv => ⟨h3 v (List.mem_of_getElem? hv), fun j c hj => ?_⟩⟩
    rw [addr_add0, addr_add0, Nat.zero_add]
    simp only [RS.grow]
    rw [if_neg (by simp), World.cell?_alloc_new]
    simpa using flat_get h3 i v j c hv hj

theorem zip_of_parts (ρ : Operand → Value) : ∀ (parts : List (Nat × Operand)) (l : List Nat), parts.map (·.1) = l → parts.map (fun x => (x.1, ρ x.2)) = l.zip (parts.map fun x => ρ x.2)
  | [], l, h => by subst h; rfl
  | p :: ps, l, h => by
    subst h
    simp only [List.map_cons, List.zip_cons_cons, List.cons.injEq, true_and]
    exact zip_of_parts ρ ps _ rfl

theorem pickD_sound {s : RS} {w : World} {c a b d : D} {vc va vb : Value} (hd : pickD c a b = some d) (hc : rel s c vc) (ha : rel s a va) (hb : rel s b vb) :
    ∃ u, (do pure (if ← asBool vc then va else vb) : Sem Value).run P w = .ok u w ∧ rel s d u := by
  unfold pickD at hd
  split at hd
  · rename_i t
    simp only [rel] at hc; subst hc
    split at hd
    · rename_i x y
      cases hd
      simp only [rel] at ha hb; subst ha; subst hb
      cases t
      · exact ⟨.bool y, by simp [asBool], by simp [rel]⟩
      · exact ⟨.bool x, by simp [asBool], by simp [rel]⟩
    · cases hd
      cases t
      · exact ⟨vb, by simp [asBool], by simpa using hb⟩
      · exact ⟨va, by simp [asBool], by simpa using ha⟩
  · cases hd

theorem pick_next {w : World} {vc va vb : Value} : (do pure (.value (if ← asBool vc then va else vb)) : Sem Next).run P w =
    ((do pure (if ← asBool vc then va else vb) : Sem Value).run P w).andThen fun v w' => .ok (.value v) w' := by
  cases vc <;> simp [asBool]
theorem maxD_sound {s : RS} {w : World} {ts : Array TypeId} {ty : TypeId} {x y d : D} {vx vy : Value} (hd : maxD x y = some d) (hx : rel s x vx) (hy : rel s y vy) : ∃ u, (Builtin.max_ ts ty #[vx, vy]).run P w = .ok u w ∧ rel s d u := by
  unfold maxD at hd
  split at hd <;> first | (cases hd; done) | skip
  cases hd
  simp only [rel] at hx hy; subst hx; subst hy
  have e : ∀ a b : Int, max a b = if b > a then b else a := fun a b => by split <;> omega
  exact ⟨_, by simp [Builtin.max_, Builtin.max2]; rfl, by simp only [rel, e]⟩
theorem minD_sound {s : RS} {w : World} {ts : Array TypeId} {ty : TypeId} {x y d : D} {vx vy : Value} (hd : minD x y = some d) (hx : rel s x vx) (hy : rel s y vy) : ∃ u, (Builtin.min_ ts ty #[vx, vy]).run P w = .ok u w ∧ rel s d u := by
  unfold minD at hd
  split at hd <;> first | (cases hd; done) | skip
  cases hd
  simp only [rel] at hx hy; subst hx; subst hy
  have e : ∀ a b : Int, min a b = if b < a then b else a := fun a b => by split <;> omega
  exact ⟨_, by simp [Builtin.min_, Builtin.min2]; rfl, by simp only [rel, e]⟩

theorem call_builtin {ρ : Operand → Value} {c : Call} {b : Builtin} (h : c.callee = .builtin b) (ty : TypeId) :
    ∃ consts, (do let d ← resolve ρ c ty; invoke d.target d.args : Sem Next) = builtin b c.argTypes ty consts (c.args.map ρ) := by
  unfold resolve
  rw [h]
  exact ⟨_, rfl⟩

theorem range_of_ok : ∀ (is : List Nat) (k n : Nat), rangeOK is k n = true → is = List.range' k (n - k)
  | [], k, n, h => by
    simp only [rangeOK, beq_iff_eq] at h; subst h; simp
  | i :: is, k, n, h => by
    simp only [rangeOK, Bool.and_eq_true, beq_iff_eq] at h
    obtain ⟨rfl, h⟩ := h
    have ih := range_of_ok is (i + 1) n h
    have hlt : i < n := by
      have key : ∀ (l : List Nat) (a b : Nat), rangeOK l a b = true → a ≤ b := by
        intro l
        induction l with
        | nil => intro a b hh; simp only [rangeOK, beq_iff_eq] at hh; omega
        | cons x l ihl =>
          intro a b hh
          simp only [rangeOK, Bool.and_eq_true] at hh
          have := ihl _ _ hh.2; omega
      have := key is (i + 1) n h; omega
    have : n - i = (n - (i + 1)) + 1 := by omega
    rw [this, List.range'_succ, ← ih]

set_option maxHeartbeats 2000000 in
theorem opR_sound {own : List Nat} {o : Oper} {st : St} {s : RS} {a : Act} {w : World} (hev : ∀ x, rel s (st.ev x) (a.eval x)) (hH : s.H = st.H) (hnx : s.nx = st.nx) (h : RH P s w)
    {d : D} {H : HM} {nx : Nat} (hd : opR P own o st = some (d, H, nx)) : Ran P s w (execOp a.eval o) d H nx := by
  obtain ⟨st_t, st_H, st_nx⟩ := st
  simp only at hH hnx
  subst hH; subst hnx
  generalize hst : (⟨st_t, s.H, s.nx⟩ : St) = st at hd hev
  have hstH : st.H = s.H := by rw [← hst]
  have hstn : st.nx = s.nx := by rw [← hst]
  have done : ∀ {d0 : Option D}, st.keep d0 = some (d, H, nx) → d0 = some d ∧ H = s.H ∧ nx = s.nx := by
    intro d0 h0
    simp only [St.keep, Option.map_eq_some_iff, Prod.mk.injEq] at h0
    obtain ⟨d1, h1, rfl, rfl, rfl⟩ := h0
    exact ⟨h1, hstH, hstn⟩
  unfold opR at hd
  unfold execOp
  split at hd
  · -- move
    rename_i x hop
    simp only [Option.some.injEq, Prod.mk.injEq] at hd
    obtain ⟨rfl, rfl, rfl⟩ := hd
    rw [hop, hstH, hstn]
    exact ran_pure h rfl (hev x)
  · -- assign
    rename_i x hop
    rw [hop]
    split at hd
    · rename_i hnil
      have hv := hev x
      rw [hnil] at hv
      split at hd
      · simp only [Option.map_eq_some_iff, Prod.mk.injEq] at hd
        obtain ⟨e, he, rfl, rfl, rfl⟩ := hd
        simp only [rel] at hv
        obtain ⟨h3, h4⟩ := new_obj h (Grew.refl w) (.row e 0 []) (.slice none 0 0) (fun b hb => by cases hb) ⟨[], World.ownsRow_nil w 0 e _, relAll_nil, ones_nil⟩
        refine ⟨.slice none 0 0, _, w, .inl (by simp [hv]), h3, h4, by simp [RS.add, hstH, hstn], by simp [RS.add, hstn], ?_⟩
        rw [hstn]
        simp only [rel]
        refine ⟨by simp [RS.add], ⟨_, _, rfl⟩, fun e' k cs hH => ?_⟩
        simp only [RS.add, updH, if_true, Option.some.injEq, HObj.row.injEq] at hH
        obtain ⟨_, rfl, _⟩ := hH
        exact ⟨Nat.le_refl _, fun _ => by simp [RS.add]⟩
      · simp only [Option.some.injEq, Prod.mk.injEq] at hd
        obtain ⟨rfl, rfl, rfl⟩ := hd
        rw [hstH, hstn]
        exact ran_pure h rfl hv
    · simp only [Option.some.injEq, Prod.mk.injEq] at hd
      obtain ⟨rfl, rfl, rfl⟩ := hd
      rw [hstH, hstn]
      exact ran_pure h rfl (hev x)
  · -- pick
    rename_i c x y hop
    obtain ⟨hd1, rfl, rfl⟩ := done hd
    rw [hop]
    obtain ⟨u, h1, h2⟩ := pickD_sound (P := P) (w := w) hd1 (hev c) (hev x) (hev y)
    refine ran_pure h ?_ h2
    have h3 := pick_next (P := P) (w := w) (vc := a.eval c) (va := a.eval x) (vb := a.eval y)
    rw [h1] at h3
    exact h3
  · -- alloc
    rename_i e hop
    rw [hop]
    simp only [Option.map_eq_some_iff, Prod.mk.injEq] at hd
    obtain ⟨zs, hz, rfl, rfl, rfl⟩ := hd
    rw [hstH, hstn]
    exact ran_new (alloc_sound h hz)
  · -- box
    rename_i e x hop
    rw [hop]
    simp only [Option.map_eq_some_iff, Prod.mk.injEq] at hd
    obtain ⟨cs, hc, rfl, rfl, rfl⟩ := hd
    rw [hstH, hstn]
    exact ran_new (box_sound h hc (hev x))
  · -- build
    rename_i t parts hop
    rw [hop]
    obtain ⟨hd1, rfl, rfl⟩ := done hd
    refine ran_of h (build_sound hd1 ?_)
    rw [Array.toList_map]
    exact relParts_of a.eval st.ev hev parts.toList
  · -- buildSlice
    rename_i t len parts hop
    rw [hop]
    split at hd
    · rename_i e he
      simp only at hd
      split at hd
      · rename_i hc
        obtain ⟨hsz, hpl0, hle, hz⟩ := hc
        have hpl := range_of_ok _ _ _ hpl0
        rw [Nat.sub_zero, ← List.range_eq_range'] at hpl
        simp only [Option.bind_eq_some_iff] at hd
        obtain ⟨cs, hcs, hd⟩ := hd
        have hr : relAll s (parts.toList.map fun x => st.ev x.2) (parts.toList.map fun x => a.eval x.2) := by
          have hr := relAll_map (s := s) (fun x => a.eval x) st.ev hev (parts.toList.map (·.2))
          simp only [List.map_map] at hr
          exact hr
        have hlen : (parts.toList.map (fun x => a.eval x.2)).length = len := by
          have := congrArg List.length hpl
          simpa using this
        have hb := buildSlice_sound (P := P) (len := len) (vparts := parts.map fun (i, x) => (i, a.eval x)) (els := parts.toList.map fun x => st.ev x.2) (vs := parts.toList.map fun x => a.eval x.2) h he hsz hle hz
          (by rw [Array.toList_map]; exact zip_of_parts a.eval parts.toList _ hpl) hlen hr hcs
        split at hd
        · simp only [Option.some.injEq, Prod.mk.injEq] at hd
          obtain ⟨rfl, rfl, rfl⟩ := hd
          rw [hstH, hstn]
          exact ran_new hb.1
        · obtain ⟨u, s', w', b1, b2, b3, b4, b5, b6, b7⟩ := hb.2
          split at hd
          · rename_i hmk
            simp only [Option.some.injEq, Prod.mk.injEq] at hd
            obtain ⟨rfl, rfl, rfl⟩ := hd
            rw [hstH, hstn]
            obtain ⟨_, rfl⟩ := hmk
            exact ran_new ⟨u, s', w', b1, b2, b3, b4, b5, by simpa only [rel] using b7⟩
          · simp only [Option.some.injEq, Prod.mk.injEq] at hd
            obtain ⟨rfl, rfl, rfl⟩ := hd
            rw [hstH, hstn]
            exact ran_new ⟨u, s', w', b1, b2, b3, b4, b5, b6⟩
      · cases hd
    · cases hd
  · -- load
    rename_i t p hop
    rw [hop]
    obtain ⟨hd1, rfl, rfl⟩ := done hd
    have hd1 := loadG_some hd1
    rw [hstH] at hd1
    exact ran_of h (load_sound h hd1 (hev p))
  · -- store
    rename_i t p v hop
    rw [hop]
    simp only [Option.map_eq_some_iff, Prod.mk.injEq] at hd
    obtain ⟨H', hd, rfl, rfl, rfl⟩ := hd
    rw [hstH] at hd
    obtain ⟨s', w', h1, h2, h3, h4, h5⟩ := store_sound h hd (hev p) (hev v)
    exact ⟨undef, s', w', .inr ⟨by simp [h1], rfl⟩, h2, h3, h4, by rw [h5, hstn], by simp [rel]⟩
  · -- binOp
    rename_i op t x y ty hop
    rw [hop]
    obtain ⟨hd1, rfl, rfl⟩ := done hd
    exact ran_of h (binD_sound hd1 (hev x) (hev y))
  · -- unOp
    rename_i op t x hop
    rw [hop]
    obtain ⟨hd1, rfl, rfl⟩ := done hd
    exact ran_of h (unD_sound hd1 (hev x))
  · -- convert
    rename_i src dst x hop
    rw [hop]
    obtain ⟨hd1, rfl, rfl⟩ := done hd
    unfold convD at hd1
    split at hd1
    · rename_i ks k k' n hks hk hx
      simp only [Option.some.injEq] at hd1
      subst hd1
      have hv := hev x
      rw [hx] at hv
      simp only [rel] at hv
      have hu := intT_some hk
      refine ran_of h ⟨.int k (k.wrap n), ?_, by simp [rel]⟩
      have hsu := intT_some hks
      simp only [hv, convert, Sem.run_bind, run_underlying hsu, run_underlying hu, Result.andThen_ok]
      rfl
    · exact ran_new (convS_sound h hd1 (hev x))
  · -- makeFunc
    rename_i fn first cap hop
    rw [hop]
    split at hd
    · rename_i f
      split at hd
      · rename_i hf
        simp only [Option.some.injEq, Prod.mk.injEq] at hd
        obtain ⟨rfl, rfl, rfl⟩ := hd
        rw [hstH, hstn]
        have hf0 : first = #[] := Array.eq_empty_of_size_eq_zero hf
        subst hf0
        refine ran_of h ⟨.func (.func f) #[] (cap.map a.eval), by simp [Instr.makeFunc], ?_⟩
        simp only [rel]
        exact ⟨(cap.toList.map a.eval), by rw [← Array.toList_map, Array.toArray_toList], relAll_map (fun x => a.eval x) st.ev hev cap.toList⟩
      · cases hd
    · cases hd
  · -- makeMap
    rename_i t hop
    rw [hop]
    simp only [Option.map_eq_some_iff, Prod.mk.injEq] at hd
    obtain ⟨kt, _, rfl, rfl, rfl⟩ := hd
    rw [hstH, hstn]
    exact ran_new (makeMap_sound h t)
  · -- range
    rename_i t x hop
    rw [hop]
    simp only [Option.map_eq_some_iff, Prod.mk.injEq] at hd
    obtain ⟨q, hq, rfl, rfl, rfl⟩ := hd
    rw [hstH, hstn]
    exact ran_new (range_sound h hq (hev x))
  · -- next
    rename_i x b hop
    rw [hop]
    rw [hstH, hstn] at hd
    exact ran_new (next_sound h hd (hev x))
  · -- lookup
    rename_i t x k ok hop
    rw [hop]
    obtain ⟨hd1, rfl, rfl⟩ := done hd
    rw [hstH] at hd1
    exact ran_of h (lookup_sound h hd1 (hev x) (hev k))
  · -- mapUpdate
    rename_i t m k x hop
    rw [hop]
    simp only [Option.map_eq_some_iff, Prod.mk.injEq] at hd
    obtain ⟨H', hd, rfl, rfl, rfl⟩ := hd
    rw [hstH] at hd
    obtain ⟨s', w', h1, h2, h3, h4, h5⟩ := update_sound h hd (hev m) (hev k) (hev x)
    exact ⟨undef, s', w', .inr ⟨by simp [h1], rfl⟩, h2, h3, h4, by rw [h5, hstn], by simp [rel]⟩
  · -- insert
    rename_i t m k x hop
    rw [hop]
    simp only [Option.map_eq_some_iff, Prod.mk.injEq] at hd
    obtain ⟨H', hd, rfl, rfl, rfl⟩ := hd
    rw [hstH] at hd
    obtain ⟨s', w', h1, h2, h3, h4, h5⟩ := update_sound h hd (hev m) (hev k) (hev x)
    exact ⟨undef, s', w', .inr ⟨by simp [h1], rfl⟩, h2, h3, h4, by rw [h5, hstn], by simp [rel]⟩
  · -- makeSlice
    rename_i t l c hop
    rw [hop]
    split at hd
    · rename_i e k l' k' c' he hl hc
      split at hd
      · rename_i hcond
        obtain ⟨rfl, h0, hb, h63, hpos⟩ := hcond
        simp only [Option.map_eq_some_iff, Prod.mk.injEq] at hd
        obtain ⟨zs, hz, rfl, rfl, rfl⟩ := hd
        have hvl := hev l
        have hvc := hev c
        rw [hl] at hvl
        rw [hc] at hvc
        simp only [rel] at hvl hvc
        rw [hstH, hstn]
        simp only [hvl, hvc]
        exact ran_new (make_sound h he hz h0 hb h63 hpos)
      · cases hd
    · cases hd
  · -- slice
    rename_i t x lo hi mx hop
    rw [hop]
    split at hd
    · obtain ⟨hd1, rfl, rfl⟩ := done hd
      refine ran_of h (slice_sound hd1 (hev x) ?_ ?_ ?_ ?_)
      · intro d hdd
        cases lo with
        | none => cases hdd
        | some y => simp only [Option.map_some, Option.some.injEq] at hdd; subst hdd; exact ⟨_, rfl, hev y⟩
      · intro hn; cases lo <;> first | rfl | cases hn
      · intro d hdd
        cases hi with
        | none => cases hdd
        | some y => simp only [Option.map_some, Option.some.injEq] at hdd; subst hdd; exact ⟨_, rfl, hev y⟩
      · intro hn; cases hi <;> first | rfl | cases hn
    · rename_i m
      obtain ⟨hd1, rfl, rfl⟩ := done hd
      refine ran_of h (slice3_sound hd1 (hev x) ?_ ?_ (hev m))
      · intro hn; cases lo <;> first | rfl | cases hn
      · intro d hdd
        cases hi with
        | none => cases hdd
        | some y => simp only [Option.map_some, Option.some.injEq] at hdd; subst hdd; exact ⟨_, rfl, hev y⟩
  · -- fieldAddr
    rename_i t x f hop
    rw [hop]
    obtain ⟨hd1, rfl, rfl⟩ := done hd
    exact ran_of h (fieldAddr_sound h hd1 (hev x))
  · -- field
    rename_i t x f hop
    rw [hop]
    split at hd
    · rename_i o' ft ds hf hx
      obtain ⟨hd1, rfl, rfl⟩ := done hd
      have hv := hev x
      rw [hx] at hv
      exact ran_of h (field_sound hf hd1 hv)
    · cases hd
  · -- indexAddr
    rename_i t x i hop
    rw [hop]
    obtain ⟨hd1, rfl, rfl⟩ := done hd
    rw [hstH] at hd1
    have hd1 := indexAddrG_some hd1
    exact ran_of h (indexAddr_sound h hd1 (hev x) (hev i))
  · -- index
    rename_i t x i hop
    rw [hop]
    obtain ⟨hd1, rfl, rfl⟩ := done hd
    exact ran_of h (index_sound hd1 (hev x) (hev i))
  · -- extract
    rename_i x i hop
    rw [hop]
    split at hd
    · rename_i ds hx
      obtain ⟨hd1, rfl, rfl⟩ := done hd
      have hv := hev x
      rw [hx] at hv
      simp only [rel] at hv
      obtain ⟨vs, hvs, hr⟩ := hv
      obtain ⟨u, hu, hru⟩ := relAll_get hr _ _ hd1
      exact ran_of h ⟨u, by simp [Instr.extract, hvs, hu], hru⟩
    · cases hd
  · -- nilCheck
    rename_i x hop
    rw [hop]
    split at hd
    · rename_i d' hx
      simp only [Option.some.injEq, Prod.mk.injEq] at hd
      obtain ⟨rfl, rfl, rfl⟩ := hd
      have hv := hev x
      rw [hx] at hv
      have hv' := hv
      simp only [rel] at hv'
      obtain ⟨ad, u, hvu, _⟩ := hv'
      rw [hstH, hstn]
      refine ran_pure h ?_ hv
      simp [hvu]
    · rename_i id off hx
      simp only [Option.some.injEq, Prod.mk.injEq] at hd
      obtain ⟨rfl, rfl, rfl⟩ := hd
      have hv := hev x
      rw [hx] at hv
      have hv' := hv
      simp only [rel] at hv'
      obtain ⟨_, ⟨ad, hvu⟩, _⟩ := hv'
      rw [hstH, hstn]
      refine ran_pure h ?_ hv
      simp [hvu]
    · cases hd
  · -- call
    rename_i c hop
    rw [hop]
    split at hd
    · rename_i b hcal
      obtain ⟨consts, hcb⟩ := call_builtin (ρ := a.eval) hcal o.type
      simp only [hcb]
      split at hd
      · rename_i x t hargs htys
        obtain ⟨hd1, rfl, rfl⟩ := done hd
        rw [hstH] at hd1
        have hd1 := lenG_some hd1
        have ha : c.args = #[x] := by rw [← Array.toArray_toList (xs := c.args), hargs]
        have ht : c.argTypes = #[t] := by rw [← Array.toArray_toList (xs := c.argTypes), htys]
        rw [ha, ht]
        have hm : Array.map a.eval #[x] = #[a.eval x] := by simp
        rw [hm]
        exact ran_of h (lenD_sound h hd1 (hev x))
      · rename_i tys x y hargs
        obtain ⟨hd1, rfl, rfl⟩ := done hd
        have ha : c.args = #[x, y] := by rw [← Array.toArray_toList (xs := c.args), hargs]
        rw [ha]
        have hm : Array.map a.eval #[x, y] = #[a.eval x, a.eval y] := by simp
        rw [hm]
        exact ran_of h (maxD_sound hd1 (hev x) (hev y))
      · rename_i tys x y hargs
        obtain ⟨hd1, rfl, rfl⟩ := done hd
        have ha : c.args = #[x, y] := by rw [← Array.toArray_toList (xs := c.args), hargs]
        rw [ha]
        have hm : Array.map a.eval #[x, y] = #[a.eval x, a.eval y] := by simp
        rw [hm]
        exact ran_of h (minD_sound hd1 (hev x) (hev y))
      · rename_i x y t u hargs htys
        split at hd
        · rename_i htu
          subst htu
          rw [hstH, hstn] at hd
          have ha : c.args = #[x, y] := by rw [← Array.toArray_toList (xs := c.args), hargs]
          have ht : c.argTypes = #[t, t] := by rw [← Array.toArray_toList (xs := c.argTypes), htys]
          rw [ha, ht]
          have hm : Array.map a.eval #[x, y] = #[a.eval x, a.eval y] := by simp
          rw [hm]
          split at hd
          · obtain ⟨hd1, rfl, rfl⟩ := done hd
            exact ran_new (appendE_sound (ty := o.type) h hd1 (hev x) (hev y))
          · split at hd
            · simp only [Option.bind_eq_some_iff] at hd
              obtain ⟨⟨d1, H1, nx1⟩, hd1, hd2⟩ := hd
              obtain ⟨v, s1, w1, a1, a2, a3, a4, a5, a6⟩ := append_sound (ty := o.type) h hd1 (hev x) (hev y)
              obtain ⟨s2, c1, c2, c3, c4, c5, _⟩ := shutR_sound a3 a4 a5 a6 hd2
              exact ran_new ⟨v, s2, w1, a1, a2.trans c1, c2, c3, c4, c5⟩
            · exact ran_new (append_sound h hd (hev x) (hev y))
        · cases hd
      · cases hd
    · cases hd
  · cases hd

end Go.Proofs.Ytjibdljdkgedcaa.Abs
