import Derived.Test.YtkhjpcmpljpmjaaGreatDoorLayB
import Derived.Orders
set_option linter.unusedSimpArgs false
set_option linter.unusedVariables false
/-
  The abstract operations are sound: every operation that calls no function of the program. No condition.
-/
namespace Go.Proofs.YtkhjpcmpljpmjaaGreatDoor.Abs
open Go.RowKit
variable {P : Program}

theorem ran_of {s : RS} {w : World} {x : Sem Value} {d : D} (h : RH P s w) (hr : ∃ u, x.run P w = .ok u w ∧ rel s d u) : Ran P s w (do pure (.value (← x))) d s.H s.nx := by
  obtain ⟨u, h1, h2⟩ := hr
  exact ran_value h h1 h2
theorem ran_new {s : RS} {w : World} {x : Sem Value} {d : D} {H : HM} {nx : Nat} (hr : ∃ v s' w', x.run P w = .ok v w' ∧ Step s w s' w' ∧ RH P s' w' ∧ s'.H = H ∧ s'.nx = nx ∧ rel s' d v) :
    Ran P s w (do pure (.value (← x))) d H nx := by
  obtain ⟨v, s', w', h1, h2, h3, h4, h5, h6⟩ := hr
  exact ⟨v, s', w', .inl (by simp [h1]), h2, h3, h4, h5, h6⟩

theorem box_sound {s : RS} {w : World} (h : RH P s w) {e : TypeId} {d : D} {v : Value} {cs : List D} (hc : cellsD d = some cs) (hv : rel s d v) :
    ∃ u s' w', (Instr.box e v).run P w = .ok u w' ∧ Step s w s' w' ∧ RH P s' w' ∧ s'.H = updH s.H s.nx (some (.box e cs)) ∧ s'.nx = s.nx + 1 ∧ rel s' (.ptr s.nx 0) u := by
  obtain ⟨h1, h2⟩ := rel_cells hv hc
  have hl := later_add h (.pointer (some ⟨w.heap.size, 0, none⟩)) (.box e cs)
  obtain ⟨h3, h4⟩ := new_obj h (Grew.alloc w (.cells v.cells e)) (.box e cs) (.pointer (some ⟨w.heap.size, 0, none⟩)) (fun b hb => by simp only [blockOf, Option.some.injEq] at hb; omega)
    ⟨w.heap.size, v.cells.toList, rfl, by simpa using heap_alloc_new w (.cells v.cells e), relAll.later hl _ _ h1, h2⟩
  refine ⟨.pointer (some ⟨w.heap.size, 0, none⟩), _, _, ?_, h3, h4, rfl, rfl, ?_⟩
  · simp [Instr.box, newVar, newRow]
  · simp only [rel]
    refine ⟨by simp [RS.add], ⟨_, rfl⟩, fun e' cs' hH => ⟨w.heap.size, by simp [RS.add], rfl⟩⟩

theorem alloc_sound {s : RS} {w : World} (h : RH P s w) {e : TypeId} {zs : List D} (hz : zeroT P e = some zs) :
    ∃ u s' w', (Instr.alloc e true (.tuple #[])).run P w = .ok u w' ∧ Step s w s' w' ∧ RH P s' w' ∧ s'.H = updH s.H s.nx (some (.box e zs)) ∧ s'.nx = s.nx + 1 ∧ rel s' (.ptr s.nx 0) u := by
  obtain ⟨z, hzr, hzrel, hzo, _⟩ := run_zeroValue hz
  obtain ⟨h3, h4⟩ := new_obj h (Grew.alloc w (.cells z.cells e)) (.box e zs) (.pointer (some ⟨w.heap.size, 0, none⟩)) (fun b hb => by simp only [blockOf, Option.some.injEq] at hb; omega)
    ⟨w.heap.size, z.cells.toList, rfl, by simpa using heap_alloc_new w (.cells z.cells e), hzrel _, hzo⟩
  refine ⟨.pointer (some ⟨w.heap.size, 0, none⟩), _, _, ?_, h3, h4, rfl, rfl, ?_⟩
  · simp [Instr.alloc, hzr, newVar, newRow]
  · simp only [rel]
    refine ⟨by simp [RS.add], ⟨_, rfl⟩, fun e' cs' hH => ⟨w.heap.size, by simp [RS.add], rfl⟩⟩

theorem buildSlice_sound {s : RS} {w : World} (h : RH P s w) {t e : TypeId} {len : Nat} {vparts : Array (Nat × Value)} {els cs : List D} {vs : List Value} (he : elemT P t = some e) (hsz : sizeT P e ≠ 0)
    (hle : len * sizeT P e ≤ 2 ^ 24) (hz : len = 0 ∨ hasZero P e = true) (hp : vparts.toList = (List.range len).zip vs) (hl : vs.length = len) (hr : relAll s els vs) (hcs : cellsAll (sizeT P e) els = some cs) :
    (∃ u s' w', (Instr.buildSlice t len vparts).run P w = .ok u w' ∧ Step s w s' w' ∧ RH P s' w' ∧ s'.H = updH s.H s.nx (some (.row e len cs)) ∧ s'.nx = s.nx + 1 ∧ rel s' (.osl s.nx len) u) ∧
    (∃ u s' w', (Instr.buildSlice t len vparts).run P w = .ok u w' ∧ Step s w s' w' ∧ RH P s' w' ∧ s'.H = s.H ∧ s'.nx = s.nx ∧ rel s' (.rsl true (sizeT P e) els) u ∧ ∃ a, u = .slice (some a) len len) := by
  obtain ⟨h1, h2, h3⟩ := cellsAll_rel hcs hr
  have hrun := run_buildSlice (w := w) (elemT_some he) hsz hle hz hp hl h3
  have hfl := flat_length h3
  have hmax : len ≤ maxLen := by
    have : len ≤ len * sizeT P e := Nat.le_mul_of_pos_right _ (Nat.pos_of_ne_zero hsz)
    simp only [maxLen]; omega
  constructor
  · have hla := later_add h (.slice (some ⟨w.heap.size, 0, none⟩) len len) (.row e len cs)
    obtain ⟨h4, h5⟩ := new_obj h (Grew.alloc w (.cells (vs.flatMap (·.cells.toList)).toArray e)) (.row e len cs) (.slice (some ⟨w.heap.size, 0, none⟩) len len)
      (fun b hb => by simp only [blockOf, Option.some.injEq] at hb; omega)
      ⟨vs.flatMap (·.cells.toList), ⟨by rw [hfl, hl], .inr ⟨w.heap.size, len, _, rfl, Nat.zero_le _, heap_alloc_new w _, Nat.le_refl _, hmax, by simp only [List.size_toArray]; rw [hfl, hl], by
        rw [List.take_of_length_le (by rw [List.toList_toArray, hfl, hl]; exact Nat.le_refl _)]⟩⟩, relAll.later hla _ _ h1, h2⟩
    refine ⟨_, _, _, hrun, h4, h5, rfl, rfl, ?_⟩
    simp only [rel]
    refine ⟨by simp [RS.add], ⟨_, _, rfl⟩, fun e' k cs' hH => ?_⟩
    simp only [RS.add, updH, if_true, Option.some.injEq, HObj.row.injEq] at hH
    obtain ⟨_, rfl, _⟩ := hH
    exact ⟨Nat.le_refl _, fun _ => by simp [RS.add]⟩
  · obtain ⟨h4, h5⟩ := new_mem h (Grew.alloc w (.cells (vs.flatMap (·.cells.toList)).toArray e))
    refine ⟨_, _, _, hrun, h4, h5, rfl, rfl, ?_⟩
    refine ⟨?_, ⟨_, rfl⟩⟩
    simp only [rel]
    have hlen := relAll_length hr
    refine .inr ⟨⟨w.heap.size, 0, none⟩, len, vs, by rw [← hlen, hl], by omega, hmax, relAll.later h4.later _ _ hr, fun i v hv => ⟨h3 v (List.mem_of_getElem? hv), fun j c hj => ?_⟩⟩
    rw [addr_add0, addr_add0, Nat.zero_add]
    simp only [RS.grow]
    rw [if_neg (by simp), World.cell?_alloc_new]
    simpa using flat_get h3 i v j c hv hj

theorem zip_of_parts (ρ : Operand → Value) : ∀ (parts : List (Nat × Operand)) (l : List Nat), parts.map (·.1) = l → parts.map (fun x => (x.1, ρ x.2)) = l.zip (parts.map fun x => ρ x.2)
  | [], l, h => by subst h; rfl
  | p :: ps, l, h => by
    subst h
    simp only [List.map_cons, List.zip_cons_cons, List.cons.injEq, true_and]
    exact zip_of_parts ρ ps _ rfl

theorem pickD_sound {s : RS} {w : World} {c a b d : D} {vc va vb : Value} (hd : pickD c a b = some d) (hc : rel s c vc) (ha : rel s a va) (hb : rel s b vb) :
    ∃ u, (do pure (if ← asBool vc then va else vb) : Sem Value).run P w = .ok u w ∧ rel s d u := by
  unfold pickD at hd
  split at hd
  · rename_i t
    simp only [rel] at hc; subst hc
    split at hd
    · rename_i x y
      cases hd
      simp only [rel] at ha hb; subst ha; subst hb
      cases t
      · exact ⟨.bool y, by simp [asBool], by simp [rel]⟩
      · exact ⟨.bool x, by simp [asBool], by simp [rel]⟩
    · cases hd
      cases t
      · exact ⟨vb, by simp [asBool], by simpa using hb⟩
      · exact ⟨va, by simp [asBool], by simpa using ha⟩
  · cases hd

theorem pick_next {w : World} {vc va vb : Value} : (do pure (.value (if ← asBool vc then va else vb)) : Sem Next).run P w =
    ((do pure (if ← asBool vc then va else vb) : Sem Value).run P w).andThen fun v w' => .ok (.value v) w' := by
  cases vc <;> simp [asBool]
theorem maxD_sound {s : RS} {w : World} {ts : Array TypeId} {ty : TypeId} {x y d : D} {vx vy : Value} (hd : maxD x y = some d) (hx : rel s x vx) (hy : rel s y vy) : ∃ u, (Builtin.max_ ts ty #[vx, vy]).run P w = .ok u w ∧ rel s d u := by
  unfold maxD at hd
  split at hd <;> first | (cases hd; done) | skip
  cases hd
  simp only [rel] at hx hy; subst hx; subst hy
  have e : ∀ a b : Int, max a b = if b > a then b else a := fun a b => by split <;> omega
  exact ⟨_, by simp [Builtin.max_, Builtin.max2]; rfl, by simp only [rel, e]⟩
theorem minD_sound {s : RS} {w : World} {ts : Array TypeId} {ty : TypeId} {x y d : D} {vx vy : Value} (hd : minD x y = some d) (hx : rel s x vx) (hy : rel s y vy) : ∃ u, (Builtin.min_ ts ty #[vx, vy]).run P w = .ok u w ∧ rel s d u := by
  unfold minD at hd
  split at hd <;> first | (cases hd; done) | skip
  cases hd
  simp only [rel] at hx hy; subst hx; subst hy
  have e : ∀ a b : Int, min a b = if b < a then b else a := fun a b => by split <;> omega
  exact ⟨_, by simp [Builtin.min_, Builtin.min2]; rfl, by simp only [rel, e]⟩

theorem call_builtin {ρ : Operand → Value} {c : Call} {b : Builtin} (h : c.callee = .builtin b) (ty : TypeId) :
    ∃ consts, (do let d ← resolve ρ c ty; invoke d.target d.args : Sem Next) = builtin b c.argTypes ty consts (c.args.map ρ) := by
  unfold resolve
  rw [h]
  exact ⟨_, rfl⟩

theorem range_of_ok : ∀ (is : List Nat) (k n : Nat), rangeOK is k n = true → is = List.range' k (n - k)
  | [], k, n, h => by
    simp only [rangeOK, beq_iff_eq] at h; subst h; simp
  | i :: is, k, n, h => by
    simp only [rangeOK, Bool.and_eq_true, beq_iff_eq] at h
    obtain ⟨rfl, h⟩ := h
    have ih := range_of_ok is (i + 1) n h
    have hlt : i < n := by
      have key : ∀ (l : List Nat) (a b : Nat), rangeOK l a b = true → a ≤ b := by
        intro l
        induction l with
        | nil => intro a b hh; simp only [rangeOK, beq_iff_eq] at hh; omega
        | cons x l ihl =>
          intro a b hh
          simp only [rangeOK, Bool.and_eq_true] at hh
          have := ihl _ _ hh.2; omega
      have := key is (i + 1) n h; omega
    have : n - i = (n - (i + 1)) + 1 := by omega
    rw [this, List.range'_succ, ← ih]

set_option maxHeartbeats 2000000 in
theorem opR_sound {own : List Nat} {o : Oper} {st : St} {s : RS} {a : Act} {w : World} (hev : ∀ x, rel s (st.ev x) (a.eval x)) (hH : s.H = st.H) (hnx : s.nx = st.nx) (h : RH P s w)
    {d : D} {H : HM} {nx : Nat} (hd : opR P own o st = some (d, H, nx)) : Ran P s w (execOp a.eval o) d H nx := by
  obtain ⟨st_t, st_H, st_nx⟩ := st
  simp only at hH hnx
  subst hH; subst hnx
  generalize hst : (⟨st_t, s.H, s.nx⟩ : St) = st at hd hev
  have hstH : st.H = s.H := by rw [← hst]
  have hstn : st.nx = s.nx := by rw [← hst]
  have done : ∀ {d0 : Option D}, st.keep d0 = some (d, H, nx) → d0 = some d ∧ H = s.H ∧ nx = s.nx := by
    intro d0 h0
    simp only [St.keep, Option.map_eq_some_iff, Prod.mk.injEq] at h0
    obtain ⟨d1, h1, rfl, rfl, rfl⟩ := h0
    exact ⟨h1, hstH, hstn⟩
  unfold opR at hd
  unfold execOp
  split at hd
  · -- move
    rename_i x hop
    simp only [Option.some.injEq, Prod.mk.injEq] at hd
    obtain ⟨rfl, rfl, rfl⟩ := hd
    rw [hop, hstH, hstn]
    exact ran_pure h rfl (hev x)
  · -- assign
    rename_i x hop
    rw [hop]
    split at hd
    · rename_i hnil
      have hv := hev x
      rw [hnil] at hv
      split at hd
      · simp only [Option.map_eq_some_iff, Prod.mk.injEq] at hd
        obtain ⟨e, he, rfl, rfl, rfl⟩ := hd
        simp only [rel] at hv
        obtain ⟨h3, h4⟩ := new_obj h (Grew.refl w) (.row e 0 []) (.slice none 0 0) (fun b hb => by cases hb) ⟨[], World.ownsRow_nil w 0 e _, relAll_nil, ones_nil⟩
        refine ⟨.slice none 0 0, _, w, .inl (by simp [hv]), h3, h4, by simp [RS.add, hstH, hstn], by simp [RS.add, hstn], ?_⟩
        rw [hstn]
        simp only [rel]
        refine ⟨by simp [RS.add], ⟨_, _, rfl⟩, fun e' k cs hH => ?_⟩
        simp only [RS.add, updH, if_true, Option.some.injEq, HObj.row.injEq] at hH
        obtain ⟨_, rfl, _⟩ := hH
        exact ⟨Nat.le_refl _, fun _ => by simp [RS.add]⟩
      · simp only [Option.some.injEq, Prod.mk.injEq] at hd
        obtain ⟨rfl, rfl, rfl⟩ := hd
        rw [hstH, hstn]
        exact ran_pure h rfl hv
    · simp only [Option.some.injEq, Prod.mk.injEq] at hd
      obtain ⟨rfl, rfl, rfl⟩ := hd
      rw [hstH, hstn]
      exact ran_pure h rfl (hev x)
  · -- pick
    rename_i c x y hop
    obtain ⟨hd1, rfl, rfl⟩ := done hd
    rw [hop]
    obtain ⟨u, h1, h2⟩ := pickD_sound (P := P) (w := w) hd1 (hev c) (hev x) (hev y)
    refine ran_pure h ?_ h2
    have h3 := pick_next (P := P) (w := w) (vc := a.eval c) (va := a.eval x) (vb := a.eval y)
    rw [h1] at h3
    exact h3
  · -- alloc
    rename_i e hop
    rw [hop]
    simp only [Option.map_eq_some_iff, Prod.mk.injEq] at hd
    obtain ⟨zs, hz, rfl, rfl, rfl⟩ := hd
    rw [hstH, hstn]
    exact ran_new (alloc_sound h hz)
  · -- box
    rename_i e x hop
    rw [hop]
    simp only [Option.map_eq_some_iff, Prod.mk.injEq] at hd
    obtain ⟨cs, hc, rfl, rfl, rfl⟩ := hd
    rw [hstH, hstn]
    exact ran_new (box_sound h hc (hev x))
  · -- build
    rename_i t parts hop
    rw [hop]
    obtain ⟨hd1, rfl, rfl⟩ := done hd
    refine ran_of h (build_sound hd1 ?_)
    rw [Array.toList_map]
    exact relParts_of a.eval st.ev hev parts.toList
  · -- buildSlice
    rename_i t len parts hop
    rw [hop]
    split at hd
    · rename_i e he
      simp only at hd
      split at hd
      · rename_i hc
        obtain ⟨hsz, hpl0, hle, hz⟩ := hc
        have hpl := range_of_ok _ _ _ hpl0
        rw [Nat.sub_zero, ← List.range_eq_range'] at hpl
        simp only [Option.bind_eq_some_iff] at hd
        obtain ⟨cs, hcs, hd⟩ := hd
        have hr : relAll s (parts.toList.map fun x => st.ev x.2) (parts.toList.map fun x => a.eval x.2) := by
          have hr := relAll_map (s := s) (fun x => a.eval x) st.ev hev (parts.toList.map (·.2))
          simp only [List.map_map] at hr
          exact hr
        have hlen : (parts.toList.map (fun x => a.eval x.2)).length = len := by
          have := congrArg List.length hpl
          simpa using this
        have hb := buildSlice_sound (P := P) (len := len) (vparts := parts.map fun (i, x) => (i, a.eval x)) (els := parts.toList.map fun x => st.ev x.2) (vs := parts.toList.map fun x => a.eval x.2) h he hsz hle hz
          (by rw [Array.toList_map]; exact zip_of_parts a.eval parts.toList _ hpl) hlen hr hcs
        split at hd
        · simp only [Option.some.injEq, Prod.mk.injEq] at hd
          obtain ⟨rfl, rfl, rfl⟩ := hd
          rw [hstH, hstn]
          exact ran_new hb.1
        · obtain ⟨u, s', w', b1, b2, b3, b4, b5, b6, b7⟩ := hb.2
          split at hd
          · rename_i hmk
            simp only [Option.some.injEq, Prod.mk.injEq] at hd
            obtain ⟨rfl, rfl, rfl⟩ := hd
            rw [hstH, hstn]
            obtain ⟨_, rfl⟩ := hmk
            exact ran_new ⟨u, s', w', b1, b2, b3, b4, b5, by simpa only [rel] using b7⟩
          · simp only [Option.some.injEq, Prod.mk.injEq] at hd
            obtain ⟨rfl, rfl, rfl⟩ := hd
            rw [hstH, hstn]
            exact ran_new ⟨u, s', w', b1, b2, b3, b4, b5, b6⟩
      · cases hd
    · cases hd
  · -- load
    rename_i t p hop
    rw [hop]
    obtain ⟨hd1, rfl, rfl⟩ := done hd
    have hd1 := loadG_some hd1
    rw [hstH] at hd1
    exact ran_of h (load_sound h hd1 (hev p))
  · -- store
    rename_i t p v hop
    rw [hop]
    simp only [Option.map_eq_some_iff, Prod.mk.injEq] at hd
    obtain ⟨H', hd, rfl, rfl, rfl⟩ := hd
    rw [hstH] at hd
    obtain ⟨s', w', h1, h2, h3, h4, h5⟩ := store_sound h hd (hev p) (hev v)
    exact ⟨undef, s', w', .inr ⟨by simp [h1], rfl⟩, h2, h3, h4, by rw [h5, hstn], by simp [rel]⟩
  · -- binOp
    rename_i op t x y ty hop
    rw [hop]
    obtain ⟨hd1, rfl, rfl⟩ := done hd
    exact ran_of h (binD_sound hd1 (hev x) (hev y))
  · -- unOp
    rename_i op t x hop
    rw [hop]
    obtain ⟨hd1, rfl, rfl⟩ := done hd
    exact ran_of h (unD_sound hd1 (hev x))
  · -- convert
    rename_i src dst x hop
    rw [hop]
    obtain ⟨hd1, rfl, rfl⟩ := done hd
    unfold convD at hd1
    split at hd1
    · rename_i ks k k' n hks hk hx
      simp only [Option.some.injEq] at hd1
      subst hd1
      have hv := hev x
      rw [hx] at hv
      simp only [rel] at hv
      have hu := intT_some hk
      refine ran_of h ⟨.int k (k.wrap n), ?_, by simp [rel]⟩
      have hsu := intT_some hks
      simp only [hv, convert, Sem.run_bind, run_underlying hsu, run_underlying hu, Result.andThen_ok]
      rfl
    · exact ran_new (convS_sound h hd1 (hev x))
  · -- makeFunc
    rename_i fn first cap hop
    rw [hop]
    split at hd
    · rename_i f
      split at hd
      · rename_i hf
        simp only [Option.some.injEq, Prod.mk.injEq] at hd
        obtain ⟨rfl, rfl, rfl⟩ := hd
        rw [hstH, hstn]
        have hf0 : first = #[] := Array.eq_empty_of_size_eq_zero hf
        subst hf0
        refine ran_of h ⟨.func (.func f) #[] (cap.map a.eval), by simp [Instr.makeFunc], ?_⟩
        simp only [rel]
        exact ⟨(cap.toList.map a.eval), by rw [← Array.toList_map, Array.toArray_toList], relAll_map (fun x => a.eval x) st.ev hev cap.toList⟩
      · cases hd
    · cases hd
  · -- makeMap
    rename_i t hop
    rw [hop]
    simp only [Option.map_eq_some_iff, Prod.mk.injEq] at hd
    obtain ⟨kt, _, rfl, rfl, rfl⟩ := hd
    rw [hstH, hstn]
    exact ran_new (makeMap_sound h t)
  · -- range
    rename_i t x hop
    rw [hop]
    simp only [Option.map_eq_some_iff, Prod.mk.injEq] at hd
    obtain ⟨q, hq, rfl, rfl, rfl⟩ := hd
    rw [hstH, hstn]
    exact ran_new (range_sound h hq (hev x))
  · -- next
    rename_i x b hop
    rw [hop]
    rw [hstH, hstn] at hd
    exact ran_new (next_sound h hd (hev x))
  · -- lookup
    rename_i t x k ok hop
    rw [hop]
    obtain ⟨hd1, rfl, rfl⟩ := done hd
    rw [hstH] at hd1
    exact ran_of h (lookup_sound h hd1 (hev x) (hev k))
  · -- mapUpdate
    rename_i t m k x hop
    rw [hop]
    simp only [Option.map_eq_some_iff, Prod.mk.injEq] at hd
    obtain ⟨H', hd, rfl, rfl, rfl⟩ := hd
    rw [hstH] at hd
    obtain ⟨s', w', h1, h2, h3, h4, h5⟩ := update_sound h hd (hev m) (hev k) (hev x)
    exact ⟨undef, s', w', .inr ⟨by simp [h1], rfl⟩, h2, h3, h4, by rw [h5, hstn], by simp [rel]⟩
  · -- insert
    rename_i t m k x hop
    rw [hop]
    simp only [Option.map_eq_some_iff, Prod.mk.injEq] at hd
    obtain ⟨H', hd, rfl, rfl, rfl⟩ := hd
    rw [hstH] at hd
    obtain ⟨s', w', h1, h2, h3, h4, h5⟩ := update_sound h hd (hev m) (hev k) (hev x)
    exact ⟨undef, s', w', .inr ⟨by simp [h1], rfl⟩, h2, h3, h4, by rw [h5, hstn], by simp [rel]⟩
  · -- makeSlice
    rename_i t l c hop
    rw [hop]
    split at hd
    · rename_i e k l' k' c' he hl hc
      split at hd
      · rename_i hcond
        obtain ⟨rfl, h0, hb, h63, hpos⟩ := hcond
        simp only [Option.map_eq_some_iff, Prod.mk.injEq] at hd
        obtain ⟨zs, hz, rfl, rfl, rfl⟩ := hd
        have hvl := hev l
        have hvc := hev c
        rw [hl] at hvl
        rw [hc] at hvc
        simp only [rel] at hvl hvc
        rw [hstH, hstn]
        simp only [hvl, hvc]
        exact ran_new (make_sound h he hz h0 hb h63 hpos)
      · cases hd
    · cases hd
  · -- slice
    rename_i t x lo hi mx hop
    rw [hop]
    split at hd
    · obtain ⟨hd1, rfl, rfl⟩ := done hd
      refine ran_of h (slice_sound hd1 (hev x) ?_ ?_ ?_ ?_)
      · intro d hdd
        cases lo with
        | none => cases hdd
        | some y => simp only [Option.map_some, Option.some.injEq] at hdd; subst hdd; exact ⟨_, rfl, hev y⟩
      · intro hn; cases lo <;> first | rfl | cases hn
      · intro d hdd
        cases hi with
        | none => cases hdd
        | some y => simp only [Option.map_some, Option.some.injEq] at hdd; subst hdd; exact ⟨_, rfl, hev y⟩
      · intro hn; cases hi <;> first | rfl | cases hn
    · cases hd
  · -- fieldAddr
    rename_i t x f hop
    rw [hop]
    obtain ⟨hd1, rfl, rfl⟩ := done hd
    exact ran_of h (fieldAddr_sound h hd1 (hev x))
  · -- field
    rename_i t x f hop
    rw [hop]
    split at hd
    · rename_i o' ft ds hf hx
      obtain ⟨hd1, rfl, rfl⟩ := done hd
      have hv := hev x
      rw [hx] at hv
      exact ran_of h (field_sound hf hd1 hv)
    · cases hd
  · -- indexAddr
    rename_i t x i hop
    rw [hop]
    obtain ⟨hd1, rfl, rfl⟩ := done hd
    rw [hstH] at hd1
    have hd1 := indexAddrG_some hd1
    exact ran_of h (indexAddr_sound h hd1 (hev x) (hev i))
  · -- index
    rename_i t x i hop
    rw [hop]
    obtain ⟨hd1, rfl, rfl⟩ := done hd
    exact ran_of h (index_sound hd1 (hev x) (hev i))
  · -- extract
    rename_i x i hop
    rw [hop]
    split at hd
    · rename_i ds hx
      obtain ⟨hd1, rfl, rfl⟩ := done hd
      have hv := hev x
      rw [hx] at hv
      simp only [rel] at hv
      obtain ⟨vs, hvs, hr⟩ := hv
      obtain ⟨u, hu, hru⟩ := relAll_get hr _ _ hd1
      exact ran_of h ⟨u, by simp [Instr.extract, hvs, hu], hru⟩
    · cases hd
  · -- nilCheck
    rename_i x hop
    rw [hop]
    split at hd
    · rename_i d' hx
      simp only [Option.some.injEq, Prod.mk.injEq] at hd
      obtain ⟨rfl, rfl, rfl⟩ := hd
      have hv := hev x
      rw [hx] at hv
      have hv' := hv
      simp only [rel] at hv'
      obtain ⟨ad, u, hvu, _⟩ := hv'
      rw [hstH, hstn]
      refine ran_pure h ?_ hv
      simp [hvu]
    · rename_i id off hx
      simp only [Option.some.injEq, Prod.mk.injEq] at hd
      obtain ⟨rfl, rfl, rfl⟩ := hd
      have hv := hev x
      rw [hx] at hv
      have hv' := hv
      simp only [rel] at hv'
      obtain ⟨_, ⟨ad, hvu⟩, _⟩ := hv'
      rw [hstH, hstn]
      refine ran_pure h ?_ hv
      simp [hvu]
    · cases hd
  · -- call
    rename_i c hop
    rw [hop]
    split at hd
    · rename_i b hcal
      obtain ⟨consts, hcb⟩ := call_builtin (ρ := a.eval) hcal o.type
      simp only [hcb]
      split at hd
      · rename_i x t hargs htys
        obtain ⟨hd1, rfl, rfl⟩ := done hd
        rw [hstH] at hd1
        have hd1 := lenG_some hd1
        have ha : c.args = #[x] := by rw [← Array.toArray_toList (xs := c.args), hargs]
        have ht : c.argTypes = #[t] := by rw [← Array.toArray_toList (xs := c.argTypes), htys]
        rw [ha, ht]
        have hm : Array.map a.eval #[x] = #[a.eval x] := by simp
        rw [hm]
        exact ran_of h (lenD_sound h hd1 (hev x))
      · rename_i tys x y hargs
        obtain ⟨hd1, rfl, rfl⟩ := done hd
        have ha : c.args = #[x, y] := by rw [← Array.toArray_toList (xs := c.args), hargs]
        rw [ha]
        have hm : Array.map a.eval #[x, y] = #[a.eval x, a.eval y] := by simp
        rw [hm]
        exact ran_of h (maxD_sound hd1 (hev x) (hev y))
      · rename_i tys x y hargs
        obtain ⟨hd1, rfl, rfl⟩ := done hd
        have ha : c.args = #[x, y] := by rw [← Array.toArray_toList (xs := c.args), hargs]
        rw [ha]
        have hm : Array.map a.eval #[x, y] = #[a.eval x, a.eval y] := by simp
        rw [hm]
        exact ran_of h (minD_sound hd1 (hev x) (hev y))
      · rename_i x y t u hargs htys
        split at hd
        · rename_i htu
          subst htu
          rw [hstH, hstn] at hd
          have ha : c.args = #[x, y] := by rw [← Array.toArray_toList (xs := c.args), hargs]
          have ht : c.argTypes = #[t, t] := by rw [← Array.toArray_toList (xs := c.argTypes), htys]
          rw [ha, ht]
          have hm : Array.map a.eval #[x, y] = #[a.eval x, a.eval y] := by simp
          rw [hm]
          split at hd
          · obtain ⟨hd1, rfl, rfl⟩ := done hd
            exact ran_new (appendE_sound (ty := o.type) h hd1 (hev x) (hev y))
          · split at hd
            · simp only [Option.bind_eq_some_iff] at hd
              obtain ⟨⟨d1, H1, nx1⟩, hd1, hd2⟩ := hd
              obtain ⟨v, s1, w1, a1, a2, a3, a4, a5, a6⟩ := append_sound (ty := o.type) h hd1 (hev x) (hev y)
              obtain ⟨s2, c1, c2, c3, c4, c5, _⟩ := shutR_sound a3 a4 a5 a6 hd2
              exact ran_new ⟨v, s2, w1, a1, a2.trans c1, c2, c3, c4, c5⟩
            · exact ran_new (append_sound h hd (hev x) (hev y))
        · cases hd
      · cases hd
    · cases hd
  · cases hd

end Go.Proofs.YtkhjpcmpljpmjaaGreatDoor.Abs
/-
  Contracts over abstract values, and the walk of a function's code over abstract states, with its soundness but for regions that draw their order. No condition.
-/
namespace Go.Proofs.YtkhjpcmpljpmjaaGreatDoor.Abs
open Go.RowKit
variable {P : Program}

def callable (P : Program) (f : FuncId) : Prop := ∃ fn, P.funcs[f]? = some fn ∧ (fn.name == "runtime.NumGoroutine") = false ∧ fn.body.isNone = false

def AC (P : Program) (f : FuncId) (ds : List D) (H : HM) (nx : Nat) (K : D → HM → Nat → Prop) : Prop :=
  callable P f ∧ ∀ (s : RS) (w : World) (vs : List Value), s.H = H → s.nx = nx → RH P s w → relAll s ds vs →
    Calls P f vs.toArray w fun e w' => ∃ v r s', e = .returned v ∧ K r s'.H s'.nx ∧ Step s w s' w' ∧ RH P s' w' ∧ rel s' r v
theorem AC.mono {f : FuncId} {ds : List D} {H : HM} {nx : Nat} {K K' : D → HM → Nat → Prop} (h : AC P f ds H nx K) (hk : ∀ r H nx, K r H nx → K' r H nx) : AC P f ds H nx K' :=
  ⟨h.1, fun s w vs h1 h2 h3 h4 => (h.2 s w vs h1 h2 h3 h4).mono fun _ _ ⟨v, r, s', he, hr, rest⟩ => ⟨v, r, s', he, hk _ _ _ hr, rest⟩⟩
def RC (P : Program) (f : FuncId) (ds : List D) (H : HM) (nx : Nat) (r : D) : Prop := AC P f ds H nx fun r' H' nx' => r' = r ∧ H' = H ∧ nx' = nx

structure Fr (P : Program) (N : Nat) (st : St) (s : RS) (a : Act) (w : World) : Prop where
  H : s.H = st.H
  nx : s.nx = st.nx
  size : a.tmps.size = N
  defers : a.defers = []
  tmps : ∀ i, rel s (st.t i) (a.tmps.getD i undef)
  heap : RH P s w

theorem Fr.ev {N : Nat} {st : St} {s : RS} {a : Act} {w : World} (h : Fr P N st s a w) : ∀ x, rel s (st.ev x) (a.eval x)
  | .tmp t => h.tmps t
  | .const v => rel_ofVal s v
  | .global g => h.heap.glob g
  | .func f => by
    simp only [St.ev, Act.eval, rel]
    exact ⟨[], rfl, relAll_nil⟩

def dstOK (N : Nat) (o : Oper) : Bool :=
  match o.dst with
  | some i => decide (i < N)
  | none => true

theorem Fr.put {N : Nat} {st : St} {s s' : RS} {a : Act} {w w' : World} (h : Fr P N st s a w) (hl : Later s s') (hr : RH P s' w') {o : Oper} (ho : dstOK N o = true) {d : D} {v : Value} (hd : rel s' d v) {H : HM} {nx : Nat}
    (hH : s'.H = H) (hnx : s'.nx = nx) : Fr P N ({ st with H := H, nx := nx }.put o.dst d) s' (a.put o.dst v) w' := by
  cases hdst : o.dst with
  | none => exact ⟨hH, hnx, h.size, h.defers, fun i => rel.later hl _ _ (h.tmps i), hr⟩
  | some i =>
    simp only [dstOK, hdst, decide_eq_true_eq] at ho
    refine ⟨hH, hnx, by simp [Act.put, h.size], h.defers, fun j => ?_, hr⟩
    simp only [St.put, updT, Act.put]
    by_cases hj : j = i
    · subst hj
      have hlt : j < a.tmps.size := by rw [h.size]; exact ho
      simpa [Array.getD, hlt] using hd
    · rw [if_neg hj]
      have : (a.tmps.setIfInBounds i v).getD j undef = a.tmps.getD j undef := by
        simp only [Array.getD_eq_getD_getElem?]
        rw [Array.getElem?_setIfInBounds_ne (fun e => hj e.symm)]
      rw [this]
      exact rel.later hl _ _ (h.tmps j)
theorem Fr.put0 {N : Nat} {st : St} {s : RS} {a : Act} {w : World} (h : Fr P N st s a w) {o : Oper} (ho : dstOK N o = true) {d : D} {v : Value} (hd : rel s d v) : Fr P N (st.put o.dst d) s (a.put o.dst v) w := by
  have := h.put (Step.refl s w).later h.heap ho hd h.H h.nx
  exact this

theorem rel_undef {s : RS} : rel s (.tup []) undef := by simp only [rel]; exact ⟨[], rfl, relAll_nil⟩
def guardD (ops : Array Oper) (st : St) (o : Oper) : Option Bool :=
  match o.guard with
  | none => some true
  | some (j, want) => match (ops[j]?).bind (·.dst) with
    | some i => match st.t i with
      | .bool b => some (b == want)
      | .tup _ => some false
      | _ => none
    | none => none

theorem guard_sound {N : Nat} {st : St} {s : RS} {a : Act} {w : World} (h : Fr P N st s a w) {ops : Array Oper} {o : Oper} {g : Bool} (hg : guardD ops st o = some g) : Region.wanted o (yielded ops a.tmps) = g := by
  unfold guardD at hg
  unfold Region.wanted
  cases ho : o.guard with
  | none => rw [ho] at hg; simpa using hg
  | some jw =>
    obtain ⟨j, want⟩ := jw
    rw [ho] at hg
    simp only at hg ⊢
    cases hd : (ops[j]?).bind (·.dst) with
    | none => rw [hd] at hg; cases hg
    | some i =>
      rw [hd] at hg
      simp only at hg
      have ht := h.tmps i
      split at hg
      · rename_i b hb
        cases hg
        rw [hb] at ht
        simp only [rel] at ht
        have hi : a.tmps[i]? = some (.bool b) := by
          simp only [Array.getD_eq_getD_getElem?] at ht
          cases hx : a.tmps[i]? with
          | none => rw [hx] at ht; simp [undef] at ht
          | some x => rw [hx] at ht; simp at ht; rw [ht]
        simp only [yielded, hd, Option.bind_some, hi]
        cases b <;> cases want <;> rfl
      · rename_i ds hb
        cases hg
        rw [hb] at ht
        simp only [rel] at ht
        obtain ⟨vs, hv, _⟩ := ht
        have hy : yielded ops a.tmps j = none := by
          simp only [yielded, hd, Option.bind_some]
          cases hx : a.tmps[i]? with
          | none => rfl
          | some x =>
            simp only [Array.getD_eq_getD_getElem?, hx, Option.getD_some] at hv
            subst hv; rfl
        rw [hy]; cases want <;> rfl
      · cases hg

def opW (P : Program) (own : List Nat) (o : Oper) (st : St) (K : St → Prop) : Prop :=
  match o.op with
  | .call { callee := .value f, args := args, argTypes := _ } =>
    match st.ev f with
    | .fn g cap => AC P g (args.toList.map st.ev ++ cap) st.H st.nx fun r H nx => K ({ st with H := H, nx := nx }.put o.dst r)
    | _ => False
  | _ => match opR P own o st with
    | some (d, H, nx) => K ({ st with H := H, nx := nx }.put o.dst d)
    | none => False

theorem run_callFunc {f : FuncId} (h : callable P f) (args : Array Value) (w : World) : (callFunc f args).run P w = .ok (.enter f args) w := by
  obtain ⟨fn, h1, h2, h3⟩ := h
  simp only [callFunc, Sem.run_bind, run_program, Result.andThen_ok, h1, h2, h3, Bool.false_eq_true, if_false, Sem.run_pure]

theorem relAll_app {s : RS} {ds es : List D} {vs us : List Value} (h : relAll s ds vs) (h' : relAll s es us) : relAll s (ds ++ es) (vs ++ us) := relAll_append h h'

theorem opW_sound {N : Nat} {own : List Nat} {o : Oper} {st : St} {s : RS} {a : Act} {w : World} {K : St → Prop} {K' : Act → World → Prop} {Q : Exit → Act → World → Prop}
    (h : Fr P N st s a w) (ho : dstOK N o = true) (hw : opW P own o st K)
    (hk : ∀ st' s' a' w', K st' → Fr P N st' s' a' w' → Step s w s' w' → K' a' w') : o.wp P a w K' Q := by
  unfold opW at hw
  split at hw
  · rename_i f args tys hop
    split at hw
    · rename_i g cap hf
      have hv := h.ev f
      rw [hf] at hv
      simp only [rel] at hv
      obtain ⟨cvs, hfv, hcr⟩ := hv
      have hargs := relAll_map (s := s) (fun x => a.eval x) st.ev h.ev args.toList
      have hc := hw.2 s w (args.toList.map (fun x => a.eval x) ++ cvs) h.H h.nx h.heap (relAll_app hargs hcr)
      unfold Oper.wp
      have hrun : (execOp a.eval o).run P w = .ok (.enter g (args.toList.map (fun x => a.eval x) ++ cvs).toArray) w := by
        unfold execOp
        rw [hop]
        simp only [resolve, hfv, Deferred.ofValue, Sem.run_bind, Sem.run_pure, Result.andThen_ok, invoke]
        rw [run_callFunc hw.1]
        congr 2
        apply Array.ext'
        simp
      rw [hrun, Oper.upon_enter]
      refine hc.mono fun e w' ⟨v, r, s', he, hK, hstep, hRH, hr⟩ => ?_
      subst he
      exact hk _ s' _ w' hK (h.put hstep.later hRH ho hr rfl rfl) hstep
    · cases hw
  · cases hr : opR P own o st with
    | none => rw [hr] at hw; cases hw
    | some x =>
      obtain ⟨d, H, nx⟩ := x
      rw [hr] at hw
      simp only at hw
      obtain ⟨v, s', w', hrun, hstep, hRH, hH, hnx, hd⟩ := opR_sound h.ev h.H h.nx h.heap hr
      unfold Oper.wp
      rcases hrun with hrun | ⟨hrun, hu⟩
      · rw [hrun, Oper.upon_value]
        exact hk _ s' _ w' hw (h.put hstep.later hRH ho hd hH hnx) hstep
      · rw [hrun, Oper.upon_skip, ← hu]
        exact hk _ s' _ w' hw (h.put hstep.later hRH ho hd hH hnx) hstep

def dsts (ops : Array Oper) : List (Option Nat) := ops.toList.map (·.dst)
def guardS (gs : List (Option Nat)) (st : St) (o : Oper) : Option Bool :=
  match o.guard with
  | none => some true
  | some (j, want) => match (gs[j]?).bind id with
    | some i => match st.t i with
      | .bool b => some (b == want)
      | .tup _ => some false
      | _ => none
    | none => none
theorem guardS_eq (ops : Array Oper) (st : St) (o : Oper) : guardS (dsts ops) st o = guardD ops st o := by
  unfold guardS guardD dsts
  have h : ∀ j : Nat, ((ops.toList.map (·.dst))[j]?).bind id = (ops[j]?).bind (·.dst) := by
    intro j
    rw [List.getElem?_map, Array.getElem?_toList]
    cases ops[j]? <;> rfl
  cases o.guard with
  | none => rfl
  | some jw =>
    obtain ⟨j, want⟩ := jw
    simp only [h]
    cases (ops[j]?).bind (·.dst) with
    | none => rfl
    | some i => rfl
def awpL (P : Program) (own : List Nat) (gs : List (Option Nat)) : List Oper → (St → Prop) → St → Prop
  | [], K, st => K st
  | o :: rest, K, st =>
    match guardS gs st o with
    | some true => opW P own o st (awpL P own gs rest K)
    | some false => awpL P own gs rest K (st.put o.dst (.tup []))
    | none => False

theorem awpL_sound {N : Nat} {own : List Nat} {ops : Array Oper} {K : St → Prop} {Q : Exit → Act → World → Prop} : ∀ (l : List Oper) (st : St) (s : RS) (a : Act) (w : World),
    (∀ o ∈ l, dstOK N o = true) → awpL P own (dsts ops) l K st → Fr P N st s a w →
    (∀ st' s' a' w', K st' → Fr P N st' s' a' w' → Step s w s' w' → Q .normal a' w') → wpList P ops Q l a w
  | [], st, s, a, w, _, h, hf, hk => hk st s a w h hf (Step.refl s w)
  | o :: rest, st, s, a, w, hdst, h, hf, hk => by
    have ho := hdst o (by simp)
    have hrest : ∀ o' ∈ rest, dstOK N o' = true := fun o' h' => hdst o' (List.mem_cons_of_mem _ h')
    simp only [awpL] at h
    unfold wpList
    rw [guardS_eq] at h
    split at h
    · rename_i hg
      rw [if_pos (guard_sound hf hg)]
      exact .inl (opW_sound hf ho h fun st' s' a' w' hK hf' hstep =>
        awpL_sound rest st' s' a' w' hrest hK hf' fun st2 s2 a2 w2 hK2 hf2 hstep2 => hk st2 s2 a2 w2 hK2 hf2 (hstep.trans hstep2))
    · rename_i hg
      rw [if_neg (by rw [guard_sound hf hg]; simp)]
      exact awpL_sound rest _ s _ w hrest h (hf.put0 ho rel_undef) hk
    · cases h

end Go.Proofs.YtkhjpcmpljpmjaaGreatDoor.Abs
/-
  Regions that draw their order: one walk in the text's order serves every order. No condition.
-/
namespace Go.Proofs.YtkhjpcmpljpmjaaGreatDoor.Abs
open Go.RowKit
variable {P : Program}

def cls (own : List Nat) (o : Oper) : Nat :=
  match o.op with
  | .move _ | .pick .. | .build .. | .binOp .. | .unOp .. | .convert .. | .makeFunc .. | .slice .. | .fieldAddr .. | .field .. | .index .. | .extract .. | .nilCheck _ => 0
  | .assign _ => if isOwn own o.dst = true then 2 else 0
  | .buildSlice .. => if isOwn own o.dst = true then 2 else 0
  | .load .. | .lookup .. => 1
  | .indexAddr .. => if isMark 3000000 own o.dst = true then 0 else 1
  | .call { callee := .value _, .. } => if isMark 5000000 own o.dst = true then 0 else if isMark 4000000 own o.dst = true then 2 else 1
  | .call { callee := .builtin .len, .. } => if isMark 3000000 own o.dst = true then 0 else 1
  | .call { callee := .builtin .append, .. } => if isMark 1000000 own o.dst = true then 1 else 2
  | .call { callee := .builtin .max, .. } => 0
  | .call { callee := .builtin .min, .. } => 0
  | _ => 2

def St.withH (st : St) (H : HM) (nx : Nat) : St := { st with H := H, nx := nx }
theorem ev_withH (st : St) (H : HM) (nx : Nat) : (st.withH H nx).ev = st.ev := by funext x; cases x <;> rfl

theorem keep_withH (st : St) (H : HM) (nx : Nat) (d : Option D) : (st.withH H nx).keep d = d.map fun d => (d, H, nx) := rfl
theorem keep_some {st : St} {d0 : Option D} {d : D} {H : HM} {nx : Nat} (h : st.keep d0 = some (d, H, nx)) : d0 = some d ∧ H = st.H ∧ nx = st.nx := by
  simp only [St.keep, Option.map_eq_some_iff, Prod.mk.injEq] at h
  obtain ⟨d1, h1, rfl, rfl, rfl⟩ := h
  exact ⟨h1, rfl, rfl⟩

theorem opR_cls0 {own : List Nat} {o : Oper} {st : St} {d : D} {H : HM} {nx : Nat} (hc : cls own o = 0) (h : opR P own o st = some (d, H, nx)) :
    H = st.H ∧ nx = st.nx ∧ ∀ H2 nx2, opR P own o (st.withH H2 nx2) = some (d, H2, nx2) := by
  unfold cls at hc
  unfold opR at h ⊢
  simp only [ev_withH]
  split at hc <;> rename_i hop <;> first | (cases hc; done) | (split at hc <;> cases hc; done) | skip
  all_goals simp only [hop] at h ⊢
  · simp only [Option.some.injEq, Prod.mk.injEq] at h
    obtain ⟨rfl, rfl, rfl⟩ := h
    exact ⟨rfl, rfl, fun _ _ => rfl⟩
  · obtain ⟨h1, rfl, rfl⟩ := keep_some h
    exact ⟨rfl, rfl, fun _ _ => by rw [keep_withH, h1]; rfl⟩
  · obtain ⟨h1, rfl, rfl⟩ := keep_some h
    exact ⟨rfl, rfl, fun _ _ => by rw [keep_withH, h1]; rfl⟩
  · obtain ⟨h1, rfl, rfl⟩ := keep_some h
    exact ⟨rfl, rfl, fun _ _ => by rw [keep_withH, h1]; rfl⟩
  · obtain ⟨h1, rfl, rfl⟩ := keep_some h
    exact ⟨rfl, rfl, fun _ _ => by rw [keep_withH, h1]; rfl⟩
  · obtain ⟨h1, rfl, rfl⟩ := keep_some h
    exact ⟨rfl, rfl, fun _ _ => by rw [keep_withH, h1]; rfl⟩
  · split at h
    · split at h
      · rename_i h1
        simp only [Option.some.injEq, Prod.mk.injEq] at h
        obtain ⟨rfl, rfl, rfl⟩ := h
        exact ⟨rfl, rfl, fun _ _ => by simp only [h1, if_true]; rfl⟩
      · cases h
    · cases h
  · split at h
    · obtain ⟨h1, rfl, rfl⟩ := keep_some h
      exact ⟨rfl, rfl, fun _ _ => by rw [keep_withH, h1]; rfl⟩
    · cases h
  · obtain ⟨h1, rfl, rfl⟩ := keep_some h
    exact ⟨rfl, rfl, fun _ _ => by rw [keep_withH, h1]; rfl⟩
  · split at h
    · rename_i h2 h3
      obtain ⟨h1, rfl, rfl⟩ := keep_some h
      exact ⟨rfl, rfl, fun _ _ => by rw [keep_withH, h1]; rfl⟩
    · cases h
  · obtain ⟨h1, rfl, rfl⟩ := keep_some h
    exact ⟨rfl, rfl, fun _ _ => by rw [keep_withH, h1]; rfl⟩
  · split at h
    · rename_i h2
      obtain ⟨h1, rfl, rfl⟩ := keep_some h
      exact ⟨rfl, rfl, fun _ _ => by rw [keep_withH, h1]; rfl⟩
    · cases h
  · split at h
    · rename_i h2
      simp only [Option.some.injEq, Prod.mk.injEq] at h
      obtain ⟨rfl, rfl, rfl⟩ := h
      exact ⟨rfl, rfl, fun _ _ => rfl⟩
    · rename_i h2
      simp only [Option.some.injEq, Prod.mk.injEq] at h
      obtain ⟨rfl, rfl, rfl⟩ := h
      exact ⟨rfl, rfl, fun _ _ => rfl⟩
    · cases h
  · split at hc
    · cases hc
    · rename_i hown
      split at h
      · rename_i hnil
        rw [if_neg hown] at h
        simp only [Option.some.injEq, Prod.mk.injEq] at h
        obtain ⟨rfl, rfl, rfl⟩ := h
        refine ⟨rfl, rfl, fun _ _ => ?_⟩
        simp only [if_neg hown]; rfl
      · simp only [Option.some.injEq, Prod.mk.injEq] at h
        obtain ⟨rfl, rfl, rfl⟩ := h
        exact ⟨rfl, rfl, fun _ _ => rfl⟩
  · split at hc
    · cases hc
    · rename_i hown
      split at h
      · split at h
        · rename_i hcond
          simp only [Option.bind_eq_some_iff] at h
          obtain ⟨cs, hcs, h⟩ := h
          split at h
          · rename_i hmk
            simp only [Option.some.injEq, Prod.mk.injEq] at h
            obtain ⟨rfl, rfl, rfl⟩ := h
            refine ⟨rfl, rfl, fun _ _ => ?_⟩
            rw [if_pos hcond, hcs]
            simp only [Option.bind_some, if_neg hown, if_pos hmk]; rfl
          · rename_i hmk
            simp only [Option.some.injEq, Prod.mk.injEq] at h
            obtain ⟨rfl, rfl, rfl⟩ := h
            refine ⟨rfl, rfl, fun _ _ => ?_⟩
            rw [if_pos hcond, hcs]
            simp only [Option.bind_some, if_neg hown, if_neg hmk]; rfl
        · cases h
      · cases h
  · split at hc
    · rename_i hm
      obtain ⟨h1, rfl, rfl⟩ := keep_some h
      refine ⟨rfl, rfl, fun H2 n2 => ?_⟩
      have e : hmG own o.dst (st.withH H2 n2).H = hmG own o.dst st.H := by unfold hmG; rw [if_pos hm, if_pos hm]
      rw [e, keep_withH, h1]; rfl
    · cases hc
  · cases h
  · split at hc
    · rename_i hm
      have e : ∀ H2 n2, hmG own o.dst (st.withH H2 n2).H = hmG own o.dst st.H := fun H2 n2 => by unfold hmG; rw [if_pos hm, if_pos hm]
      simp only [e]
      split at h
      all_goals first
        | (simp only [reduceCtorEq] at *; done)
        | (obtain ⟨h1, rfl, rfl⟩ := keep_some h; exact ⟨rfl, rfl, fun _ _ => by rw [keep_withH, h1]; rfl⟩)
    · cases hc
  · split at h
    all_goals first
      | (simp only [reduceCtorEq] at *; done)
      | (obtain ⟨h1, rfl, rfl⟩ := keep_some h; exact ⟨rfl, rfl, fun _ _ => by rw [keep_withH, h1]; rfl⟩)
  · split at h
    all_goals first
      | (simp only [reduceCtorEq] at *; done)
      | (obtain ⟨h1, rfl, rfl⟩ := keep_some h; exact ⟨rfl, rfl, fun _ _ => by rw [keep_withH, h1]; rfl⟩)

theorem opR_cls1 {own : List Nat} {o : Oper} {st : St} {d : D} {H : HM} {nx : Nat} (hc : cls own o ≤ 1) (h : opR P own o st = some (d, H, nx)) : H = st.H ∧ nx = st.nx := by
  by_cases h0 : cls own o = 0
  · exact ⟨(opR_cls0 h0 h).1, (opR_cls0 h0 h).2.1⟩
  · have h1 : cls own o = 1 := by omega
    unfold cls at h1
    unfold opR at h
    split at h1 <;> rename_i hop <;> first | (cases h1; done) | skip
    all_goals simp only [hop] at h
    · split at h1 <;> cases h1
    · split at h1 <;> cases h1
    · obtain ⟨_, rfl, rfl⟩ := keep_some h; exact ⟨rfl, rfl⟩
    · obtain ⟨_, rfl, rfl⟩ := keep_some h; exact ⟨rfl, rfl⟩
    · obtain ⟨_, rfl, rfl⟩ := keep_some h; exact ⟨rfl, rfl⟩
    · cases h
    · split at h
      all_goals first
        | (simp only [reduceCtorEq] at *; done)
        | (obtain ⟨_, rfl, rfl⟩ := keep_some h; exact ⟨rfl, rfl⟩)
    · split at h1
      · rename_i hmk
        split at h
        all_goals first
          | (simp only [reduceCtorEq] at *; done)
          | (split at h
             · first | rw [if_pos hmk] at h | skip
               obtain ⟨_, rfl, rfl⟩ := keep_some h
               exact ⟨rfl, rfl⟩
             · cases h)
      · cases h1

theorem map_congr' {α β : Type} {f g : α → β} : ∀ (l : List α), (∀ x ∈ l, f x = g x) → l.map f = l.map g := fun _ h => List.map_congr_left h

theorem opR_congr {own : List Nat} {o : Oper} {st st' : St} (hev : ∀ x ∈ o.op.operands.toList, st.ev x = st'.ev x) (hH : st.H = st'.H) (hnx : st.nx = st'.nx) : opR P own o st = opR P own o st' := by
  unfold opR
  have hk : ∀ d, st.keep d = st'.keep d := fun d => by simp only [St.keep, hH, hnx]
  cases hop : o.op <;> simp only [hop, Op.operands] at hev ⊢
  case move x => rw [hev x (by simp), hH, hnx]
  case assign x => rw [hev x (by simp), hH, hnx]
  case pick c a b => rw [hev c (by simp), hev a (by simp), hev b (by simp), hk]
  case alloc e => rw [hH, hnx]
  case box e x => rw [hev x (by simp), hH, hnx]
  case build t parts =>
    have : parts.toList.map (fun x => (x.1, st.ev x.2)) = parts.toList.map (fun x => (x.1, st'.ev x.2)) :=
      map_congr' _ fun x hx => by rw [hev x.2 (List.mem_map.2 ⟨x, hx, rfl⟩)]
    exact (congrArg (fun l => st.keep (buildD P t l)) this).trans (hk _)
  case buildSlice t len parts =>
    have : parts.toList.map (fun x => st.ev x.2) = parts.toList.map (fun x => st'.ev x.2) :=
      map_congr' _ fun x hx => hev x.2 (List.mem_map.2 ⟨x, hx, rfl⟩)
    simp only [this, hH, hnx]
  case load t p => rw [hev p (by simp), hH, hnx, hk]
  case store t p v => rw [hev p (by simp), hev v (by simp), hH, hnx]
  case binOp op t x y u => rw [hev x (by simp), hev y (by simp), hk]
  case unOp op t x => rw [hev x (by simp), hk]
  case convert s d x => rw [hev x (by simp), hk]
  case makeFunc fn first cap =>
    have : cap.toList.map st.ev = cap.toList.map st'.ev := map_congr' _ fun x hx => hev x (by simp; exact .inr (by simpa using hx))
    simp only [this, hH, hnx]
  case makeMap t r =>
    cases r with
    | none => simp only [hH, hnx]
    | some r => rfl
  case range t x => rw [hev x (by simp), hH, hnx]
  case next x b => rw [hev x (by simp), hH, hnx]
  case lookup t x k ok => rw [hev x (by simp), hev k (by simp), hH, hk]
  case mapUpdate t m k x => rw [hev m (by simp), hev k (by simp), hev x (by simp), hH, hnx]
  case insert t m k x => rw [hev m (by simp), hev k (by simp), hev x (by simp), hH, hnx]
  case makeSlice t l c => rw [hev l (by simp), hev c (by simp), hH, hnx]
  case slice t x lo hi mx =>
    have h1 : lo.map st.ev = lo.map st'.ev := by
      cases lo with
      | none => rfl
      | some y => simp only [Option.map_some]; rw [hev y (by simp)]
    have h2 : hi.map st.ev = hi.map st'.ev := by
      cases hi with
      | none => rfl
      | some y => simp only [Option.map_some]; rw [hev y (by simp)]
    rw [hev x (by simp), h1, h2]
    simp only [hk]
  case fieldAddr s x f => rw [hev x (by simp), hk]
  case field t x f => rw [hev x (by simp)]; simp only [hk]
  case indexAddr t x i => rw [hev x (by simp), hev i (by simp), hH, hk]
  case index t x i => rw [hev x (by simp), hev i (by simp), hk]
  case extract x i => rw [hev x (by simp)]; simp only [hk]
  case nilCheck x => rw [hev x (by simp), hH, hnx]
  case call c =>
    have hargs : ∀ x ∈ c.args.toList, st.ev x = st'.ev x := fun x hx => hev x (by simp [Call.operands]; exact .inr (by simpa using hx))
    split
    · rename_i b hcal
      split
      · rename_i x t ha _
        rw [hargs x (by rw [ha]; simp), hH, hk]
      · rename_i x y ha
        rw [hargs x (by rw [ha]; simp), hargs y (by rw [ha]; simp), hk]
      · rename_i x y ha
        rw [hargs x (by rw [ha]; simp), hargs y (by rw [ha]; simp), hk]
      · rename_i x y t u ha _
        rw [hargs x (by rw [ha]; simp), hargs y (by rw [ha]; simp), hH, hnx, hk]
      · rfl
    · rfl

end Go.Proofs.YtkhjpcmpljpmjaaGreatDoor.Abs
/-
  Regions that draw their order, second part: whatever order is drawn, the walk of the text's order serves. No condition.
-/
namespace Go.Proofs.YtkhjpcmpljpmjaaGreatDoor.Abs
open Go.RowKit
variable {P : Program}

def SameB (st : St) (H : HM) (nx : Nat) : Prop := st.nx ≤ nx ∧ ∀ id, (id < st.nx → ∀ e cs, st.H id = some (.box e cs) → H id = some (.box e cs)) ∧ (id < nx → ∀ e cs, H id = some (.box e cs) → id < st.nx ∧ st.H id = some (.box e cs))
def touchOf (i : Nat) : List Nat → Option Nat
  | s :: r :: l => if s = i + 600000 then some r else touchOf i (r :: l)
  | _ => none
def okT (own : List Nat) (dst : Option Nat) (d : D) : Bool :=
  match dst with
  | some i => (match touchOf i own with
    | some r => (match d with
      | .ptr id _ => decide (id + 900000 = r)
      | _ => false)
    | none => true)
  | none => true
def slotOf : Operand → Option Nat
  | .tmp i => some i
  | _ => none
def okW (own : List Nat) (o : Oper) (st : St) : Bool :=
  match o.op with
  | .buildSlice .. => if isMark 7000000 own o.dst = true ∧ isOwn own o.dst = true then decide (boundB own ≤ st.nx) else true
  | .alloc _ => if isMark 7000000 own o.dst = true then decide (boundB own ≤ st.nx) else true
  | .load _ p => okT own o.dst (st.ev p)
  | .store _ p _ => okT own (slotOf p) (st.ev p)
  | .call { callee := .builtin .append, args := args, .. } =>
    if isMark 7000000 own o.dst = true then
      (match args.toList with
      | x :: _ => (match st.ev x with
        | .osl id _ => decide (boundB own ≤ id ∧ boundB own ≤ st.nx)
        | _ => decide (boundB own ≤ st.nx))
      | [] => false)
    else true
  | _ => true
theorem okW_congr {own : List Nat} {o : Oper} {st st' : St} (hev : ∀ x ∈ o.op.operands.toList, st.ev x = st'.ev x) (hnx : st.nx = st'.nx) : okW own o st = okW own o st' := by
  unfold okW
  cases hop : o.op <;> simp only [hnx]
  · rename_i t p
    rw [hop] at hev
    rw [hev p (by simp [Op.operands])]
  · rename_i t p v
    rw [hop] at hev
    rw [hev p (by simp [Op.operands])]
  rename_i c
  obtain ⟨callee, args, tys⟩ := c
  rw [hop] at hev
  simp only [Op.operands, Call.operands] at hev
  cases callee <;> first | rfl | skip
  rename_i b
  cases b <;> first | rfl | skip
  simp only
  split
  · cases ha : args.toList with
    | nil => rfl
    | cons x l =>
      simp only
      have : st.ev x = st'.ev x := hev x (by
        have hx : x ∈ args := Array.mem_toList_iff.1 (by rw [ha]; simp)
        simpa using hx)
      rw [this]
  · rfl
theorem okW_load {own : List Nat} {o : Oper} {st : St} {H : HM} {nx : Nat} {t : TypeId} {p : Operand} (hop : o.op = .load t p) : okW own o (st.withH H nx) = okW own o st := by
  unfold okW; rw [hop]; rfl
def stepE (P : Program) (own : List Nat) (ops : Array Oper) (o : Oper) (st : St) (d : D) (H : HM) (nx : Nat) : Prop :=
  (guardD ops st o = some true ∧ ((∃ f args tys g cap, o.op = .call { callee := .value f, args := args, argTypes := tys } ∧ st.ev f = .fn g cap ∧ ((isMark 5000000 own o.dst = false ∧ RC P g (args.toList.map st.ev ++ cap) st.H st.nx d ∧ H = st.H ∧ nx = st.nx) ∨
      (isMark 5000000 own o.dst = true ∧ (∀ H nx, RC P g (args.toList.map st.ev ++ cap) H nx d) ∧ H = st.H ∧ nx = st.nx) ∨
      (isMark 5000000 own o.dst = false ∧ isMark 4000000 own o.dst = true ∧ AC P g (args.toList.map st.ev ++ cap) st.H st.nx (fun r' H' nx' => r' = d ∧ H' = H ∧ nx' = nx) ∧ SameB st H nx))) ∨
    (opR P own o st = some (d, H, nx) ∧ okW own o st = true))) ∨ (guardD ops st o = some false ∧ d = .tup [] ∧ H = st.H ∧ nx = st.nx)
def St.next (st : St) (o : Oper) (d : D) (H : HM) (nx : Nat) : St := (st.withH H nx).put o.dst d

theorem ev_of_looks {ops : Array Oper} {o : Oper} {st st' : St} (h : ∀ t ∈ o.looksAt ops, st.t t = st'.t t) : ∀ x ∈ o.op.operands.toList, st.ev x = st'.ev x := by
  intro x hx
  cases x with
  | tmp t =>
    refine h t ?_
    unfold Oper.looksAt
    refine List.mem_append.2 (.inl (List.mem_filterMap.2 ⟨_, hx, rfl⟩))
  | const v => rfl
  | global g => rfl
  | func f => rfl
theorem guard_of_looks {ops : Array Oper} {o : Oper} {st st' : St} (h : ∀ t ∈ o.looksAt ops, st.t t = st'.t t) : guardD ops st o = guardD ops st' o := by
  unfold guardD
  cases hg : o.guard with
  | none => rfl
  | some jw =>
    obtain ⟨j, want⟩ := jw
    simp only
    cases hd : (ops[j]?).bind (·.dst) with
    | none => rfl
    | some i =>
      have := h i (by
        unfold Oper.looksAt
        refine List.mem_append.2 (.inr ?_)
        rw [hg]; simp only [hd]; simp)
      simp only [this]

theorem stepE_congr {own : List Nat} {ops : Array Oper} {o : Oper} {st st' : St} {d : D} {H : HM} {nx : Nat} (h : ∀ t ∈ o.looksAt ops, st.t t = st'.t t) (hH : st.H = st'.H) (hnx : st.nx = st'.nx)
    (hs : stepE P own ops o st d H nx) : stepE P own ops o st' d H nx := by
  have hev := ev_of_looks h
  unfold stepE at *
  rw [guard_of_looks h] at hs
  rcases hs with ⟨hg, hs⟩ | ⟨hg, hs⟩
  · refine .inl ⟨hg, ?_⟩
    rcases hs with ⟨f, args, tys, g, cap, hop, hf, hcase⟩ | hs
    · rw [hop] at hev
      simp only [Op.operands, Call.operands] at hev
      have hargs : args.toList.map st.ev = args.toList.map st'.ev := map_congr' _ fun x hx => hev x (by simp; exact .inr (by simpa using hx))
      refine .inl ⟨f, args, tys, g, cap, hop, by rw [← hev f (by simp)]; exact hf, ?_⟩
      rcases hcase with ⟨h0, hrc, h1, h2⟩ | ⟨h0, hrc, h1, h2⟩ | ⟨h0, hm, hac, hsb⟩
      · exact .inl ⟨h0, by rw [← hargs, ← hH, ← hnx]; exact hrc, by rw [h1, hH], by rw [h2, hnx]⟩
      · exact .inr (.inl ⟨h0, by rw [← hargs]; exact hrc, by rw [h1, hH], by rw [h2, hnx]⟩)
      · refine .inr (.inr ⟨h0, hm, by rw [← hargs, ← hH, ← hnx]; exact hac, ?_⟩)
        unfold SameB at hsb ⊢
        rw [← hH, ← hnx]; exact hsb
    · exact .inr ⟨by rw [← opR_congr hev hH hnx]; exact hs.1, by rw [← okW_congr hev hnx]; exact hs.2⟩
  · exact .inr ⟨hg, hs.1, by rw [hs.2.1, hH], by rw [hs.2.2, hnx]⟩

theorem guard_withH (ops : Array Oper) (st : St) (o : Oper) (H : HM) (nx : Nat) : guardD ops (st.withH H nx) o = guardD ops st o := rfl

theorem stepE_cls0 {own : List Nat} {ops : Array Oper} {o : Oper} {st : St} {d : D} {H : HM} {nx : Nat} (hc : cls own o = 0) (hs : stepE P own ops o st d H nx) :
    H = st.H ∧ nx = st.nx ∧ ∀ H2 nx2, stepE P own ops o (st.withH H2 nx2) d H2 nx2 := by
  unfold stepE at *
  rcases hs with ⟨hg, hs⟩ | ⟨hg, h1, h2, h3⟩
  · rcases hs with ⟨f, args, tys, g, cap, hop, hf, ⟨h0, _⟩ | ⟨h0, hrc, h1, h2⟩ | ⟨h0, _⟩⟩ | hs
    · unfold cls at hc; rw [hop] at hc; simp only [h0, Bool.false_eq_true, if_false] at hc; split at hc <;> cases hc
    · exact ⟨h1, h2, fun H2 nx2 => .inl ⟨hg, .inl ⟨f, args, tys, g, cap, hop, by rw [ev_withH]; exact hf, .inr (.inl ⟨h0, by rw [ev_withH]; exact hrc, rfl, rfl⟩)⟩⟩⟩
    · unfold cls at hc; rw [hop] at hc; simp only [h0, Bool.false_eq_true, if_false] at hc; split at hc <;> cases hc
    · obtain ⟨h1, h2, h3⟩ := opR_cls0 hc hs.1
      refine ⟨h1, h2, fun H2 nx2 => .inl ⟨hg, .inr ⟨h3 H2 nx2, ?_⟩⟩⟩
      unfold cls at hc
      unfold okW
      split
      · rename_i hop
        simp only [hop] at hc
        rw [if_neg]
        rintro ⟨_, ho⟩
        rw [if_pos ho] at hc; cases hc
      · rename_i hop; simp only [hop] at hc; cases hc
      · rename_i hop; simp only [hop] at hc; cases hc
      · rename_i hop; simp only [hop] at hc; cases hc
      · rename_i hop
        simp only [hop] at hc
        split at hc <;> cases hc
      · rfl
  · exact ⟨h2, h3, fun H2 nx2 => .inr ⟨hg, h1, rfl, rfl⟩⟩
theorem stepE_cls1 {own : List Nat} {ops : Array Oper} {o : Oper} {st : St} {d : D} {H : HM} {nx : Nat} (hc : cls own o ≤ 1) (hs : stepE P own ops o st d H nx) : H = st.H ∧ nx = st.nx := by
  unfold stepE at hs
  rcases hs with ⟨hg, hs⟩ | ⟨hg, h1, h2, h3⟩
  · rcases hs with ⟨f, args, tys, g, cap, hop, _, ⟨_, _, h1, h2⟩ | ⟨_, _, h1, h2⟩ | ⟨h0, hm, _⟩⟩ | hs
    · exact ⟨h1, h2⟩
    · exact ⟨h1, h2⟩
    · unfold cls at hc; rw [hop] at hc; simp only [h0, hm, if_true, Bool.false_eq_true, if_false] at hc; omega
    · exact opR_cls1 hc hs.1
  · exact ⟨h2, h3⟩

theorem put_t_other {st : St} {dst : Option Nat} {d : D} {t : Nat} (h : dst ≠ some t) : (st.put dst d).t t = st.t t := by
  cases dst with
  | none => rfl
  | some i => simp only [St.put, updT]; rw [if_neg (fun e => h (by rw [e]))]
theorem put_H (st : St) (dst : Option Nat) (d : D) : (st.put dst d).H = st.H := by cases dst <;> rfl
theorem put_nx (st : St) (dst : Option Nat) (d : D) : (st.put dst d).nx = st.nx := by cases dst <;> rfl
theorem next_H (st : St) (o : Oper) (d : D) (H : HM) (nx : Nat) : (st.next o d H nx).H = H := by unfold St.next; rw [put_H]; rfl
theorem next_nx (st : St) (o : Oper) (d : D) (H : HM) (nx : Nat) : (st.next o d H nx).nx = nx := by unfold St.next; rw [put_nx]; rfl
theorem next_other {st : St} {o : Oper} {d : D} {H : HM} {nx t : Nat} (h : o.dst ≠ some t) : (st.next o d H nx).t t = st.t t := by unfold St.next; rw [put_t_other h]; rfl

theorem next_comm {st : St} {x y : Oper} {dx dy : D} {H1 H2 H3 : HM} {n1 n2 n3 : Nat} (h : ∀ d, x.dst = some d → y.dst ≠ some d) :
    (st.next x dx H1 n1).next y dy H3 n3 = (st.next y dy H2 n2).next x dx H3 n3 := by
  unfold St.next St.withH St.put
  cases hx : x.dst with
  | none => cases hy : y.dst <;> rfl
  | some i =>
    cases hy : y.dst with
    | none => rfl
    | some j =>
      have hij : j ≠ i := fun e => h i hx (by rw [hy, e])
      simp only [St.mk.injEq, and_true]
      funext k
      simp only [updT]
      by_cases h1 : k = j
      · subst h1; rw [if_pos rfl, if_neg hij, if_pos rfl]
      · rw [if_neg h1]
        by_cases h2 : k = i
        · rw [if_pos h2, if_pos h2]
        · rw [if_neg h2, if_neg h2, if_neg h1]

def looksB (own : List Nat) (o : Oper) : Bool :=
  match o.op with
  | .load _ _ => isMark 3000000 own o.dst
  | _ => false
def keepsB (own : List Nat) (o : Oper) : Bool :=
  match o.op with
  | .call { callee := .value _, .. } => isMark 4000000 own o.dst
  | .call { callee := .builtin .append, .. } => true
  | .buildSlice .. => true
  | _ => false
theorem sameB_self (st : St) : SameB st st.H st.nx := ⟨Nat.le_refl _, fun _ => ⟨fun _ _ _ h => h, fun h _ _ h2 => ⟨h, h2⟩⟩⟩
theorem sameB_row (st : St) {id0 : Nat} {o o' : HObj} (h0 : st.H id0 = some o) (hb : ∀ e cs, o ≠ .box e cs) (hb' : ∀ e cs, o' ≠ .box e cs) : SameB st (updH st.H id0 (some o')) st.nx := by
  refine ⟨Nat.le_refl _, fun id => ⟨fun _ e cs h => ?_, fun hlt e cs h => ⟨hlt, ?_⟩⟩⟩
  · unfold updH
    by_cases he : id = id0
    · subst he; rw [h0] at h; cases h; exact (hb _ _ rfl).elim
    · rw [if_neg he]; exact h
  · unfold updH at h
    by_cases he : id = id0
    · rw [if_pos he] at h; cases h; exact (hb' _ _ rfl).elim
    · rw [if_neg he] at h; exact h
theorem sameB_new (st : St) {o' : HObj} (hb' : ∀ e cs, o' ≠ .box e cs) : SameB st (updH st.H st.nx (some o')) (st.nx + 1) := by
  refine ⟨by omega, fun id => ⟨fun hlt e cs h => ?_, fun hlt e cs h => ?_⟩⟩
  · unfold updH; rw [if_neg (by omega)]; exact h
  · unfold updH at h
    by_cases he : id = st.nx
    · rw [if_pos he] at h; cases h; exact (hb' _ _ rfl).elim
    · rw [if_neg he] at h; exact ⟨by omega, h⟩
theorem sameB_drop (st : St) {H : HM} {nx id0 : Nat} {o : HObj} (h : SameB st H nx) (h0 : H id0 = some o) (hb : ∀ e cs, o ≠ .box e cs) : SameB st (updH H id0 none) nx := by
  refine ⟨h.1, fun id => ⟨fun hlt e cs h1 => ?_, fun hlt e cs h1 => ?_⟩⟩
  · have h2 := (h.2 id).1 hlt e cs h1
    unfold updH
    by_cases he : id = id0
    · subst he; rw [h0] at h2; cases h2; exact (hb _ _ rfl).elim
    · rw [if_neg he]; exact h2
  · unfold updH at h1
    by_cases he : id = id0
    · rw [if_pos he] at h1; cases h1
    · rw [if_neg he] at h1; exact (h.2 id).2 hlt e cs h1
theorem appendD_sameB {st : St} {t : TypeId} {x y d : D} {H : HM} {nx : Nat} (h : appendD P st.H st.nx t x y = some (d, H, nx)) : SameB st H nx := by
  unfold appendD at h
  split at h
  · split at h
    · simp only [Option.bind_eq_some_iff] at h
      obtain ⟨⟨m, news⟩, _, h⟩ := h
      simp only at h
      split at h
      · split at h
        · simp only [Option.some.injEq, Prod.mk.injEq] at h
          obtain ⟨_, rfl, rfl⟩ := h
          exact sameB_new st (by intro e cs h; cases h)
        · cases h
      · split at h
        · rename_i hid
          split at h
          · simp only [Option.some.injEq, Prod.mk.injEq] at h
            obtain ⟨_, rfl, rfl⟩ := h
            exact sameB_row st hid (by intro e cs h; cases h) (by intro e cs h; cases h)
          · cases h
        · cases h
      · cases h
    · cases h
  · cases h
theorem shutR_sameB {st : St} {d d' : D} {H H' : HM} {nx nx' : Nat} (h0 : SameB st H nx) (h : shutR P (d, H, nx) = some (d', H', nx')) : SameB st H' nx' := by
  unfold shutR at h
  split at h
  · rename_i heq
    cases heq
    split at h
    · rename_i hid
      split at h
      · simp only [Option.some.injEq, Prod.mk.injEq] at h
        obtain ⟨_, rfl, rfl⟩ := h
        exact sameB_drop st h0 hid (by intro e cs h; cases h)
      · cases h
    · cases h
  · cases h
theorem keepsB_opR {own : List Nat} {o : Oper} {st : St} {d : D} {H : HM} {nx : Nat} (hk : keepsB own o = true) (h : opR P own o st = some (d, H, nx)) : SameB st H nx := by
  unfold keepsB at hk
  split at hk
  · rename_i hop
    unfold opR at h
    simp only [hop] at h
    cases h
  · rename_i hop
    unfold opR at h
    simp only [hop] at h
    split at h
    all_goals first
      | (simp only [reduceCtorEq] at *; done)
      | skip
    · split at h
      · split at h
        · obtain ⟨_, rfl, rfl⟩ := keep_some h
          exact sameB_self st
        · split at h
          · simp only [Option.bind_eq_some_iff] at h
            obtain ⟨⟨d1, H1, n1⟩, h1, h2⟩ := h
            exact shutR_sameB (appendD_sameB h1) h2
          · exact appendD_sameB h
      · cases h
  · rename_i hop
    unfold opR at h
    simp only [hop] at h
    split at h
    · split at h
      · simp only [Option.bind_eq_some_iff] at h
        obtain ⟨cs, _, h⟩ := h
        split at h
        · simp only [Option.some.injEq, Prod.mk.injEq] at h
          obtain ⟨_, rfl, rfl⟩ := h
          exact sameB_new st (fun e cs h => by cases h)
        · split at h
          · simp only [Option.some.injEq, Prod.mk.injEq] at h
            obtain ⟨_, rfl, rfl⟩ := h
            exact sameB_self st
          · simp only [Option.some.injEq, Prod.mk.injEq] at h
            obtain ⟨_, rfl, rfl⟩ := h
            exact sameB_self st
      · cases h
    · cases h
  · cases hk
theorem stepE_keepsB {own : List Nat} {ops : Array Oper} {o : Oper} {st : St} {d : D} {H : HM} {nx : Nat} (hk : keepsB own o = true) (hs : stepE P own ops o st d H nx) : SameB st H nx := by
  unfold stepE at hs
  rcases hs with ⟨hg, hs⟩ | ⟨hg, h1, h2, h3⟩
  · rcases hs with ⟨f, args, tys, g, cap, hop, _, ⟨_, _, h1, h2⟩ | ⟨_, _, h1, h2⟩ | ⟨_, _, _, hsb⟩⟩ | hs
    · subst h1; subst h2; exact sameB_self st
    · subst h1; subst h2; exact sameB_self st
    · exact hsb
    · exact keepsB_opR hk hs.1
  · subst h2; subst h3; exact sameB_self st
theorem loadB_same {st : St} {H : HM} {nx : Nat} {t : TypeId} {p d : D} (hb : SameB st H nx) : (loadB P st.H st.nx t p = some d → loadB P H nx t p = some d) ∧ (loadB P H nx t p = some d → loadB P st.H st.nx t p = some d) := by
  cases p <;> first | (constructor <;> intro h <;> exact h) | skip
  rename_i id off
  simp only [loadB, loadD]
  constructor
  · intro h
    split at h
    · rename_i hlt
      rw [if_pos (Nat.lt_of_lt_of_le hlt hb.1)]
      split at h
      · rename_i hid
        rw [(hb.2 id).1 hlt _ _ hid]; exact h
      · cases h
    · cases h
  · intro h
    split at h
    · rename_i hlt
      split at h
      · rename_i hid
        obtain ⟨h1, h2⟩ := (hb.2 id).2 hlt _ _ hid
        rw [if_pos h1, h2]; exact h
      · cases h
    · cases h
theorem looksB_opR {own : List Nat} {o : Oper} (hl : looksB own o = true) : ∃ t p, o.op = .load t p ∧ ∀ st : St, opR P own o st = st.keep (loadB P st.H st.nx t (st.ev p)) := by
  unfold looksB at hl
  split at hl
  · rename_i t p hop
    refine ⟨t, p, hop, fun st => ?_⟩
    unfold opR
    simp only [hop, loadG, hl, if_true]
  · cases hl
theorem looksB_cls {own : List Nat} {o : Oper} (hl : looksB own o = true) : cls own o = 1 := by
  unfold looksB at hl
  split at hl
  · rename_i hop
    unfold cls; rw [hop]
  · cases hl
theorem stepE_looksB {own : List Nat} {ops : Array Oper} {o : Oper} {st : St} {d : D} {H : HM} {nx : Nat} (hl : looksB own o = true) (hb : SameB st H nx) :
    (stepE P own ops o st d st.H st.nx → stepE P own ops o (st.withH H nx) d H nx) ∧ (stepE P own ops o (st.withH H nx) d H nx → stepE P own ops o st d st.H st.nx) := by
  obtain ⟨t, p, hop, hop2⟩ := looksB_opR (P := P) hl
  obtain ⟨k1, k2⟩ := loadB_same (P := P) (t := t) (p := st.ev p) (d := d) hb
  have e1 : opR P own o (st.withH H nx) = (loadB P H nx t (st.ev p)).map fun d => (d, H, nx) := by rw [hop2, ev_withH]; rfl
  have e2 : opR P own o st = (loadB P st.H st.nx t (st.ev p)).map fun d => (d, st.H, st.nx) := by rw [hop2]; rfl
  constructor
  · intro hs
    unfold stepE at *
    rcases hs with ⟨hg, hs⟩ | ⟨hg, h1, _, _⟩
    · refine .inl ⟨hg, .inr ?_⟩
      rcases hs with ⟨f, args, tys, g, cap, hop', _⟩ | hs
      · rw [hop] at hop'; cases hop'
      · rw [e2, Option.map_eq_some_iff] at hs
        obtain ⟨⟨d1, h1, h2⟩, hok⟩ := hs
        simp only [Prod.mk.injEq, and_true] at h2
        subst h2
        rw [e1, k1 h1]; exact ⟨rfl, by rw [okW_load hop]; exact hok⟩
    · exact .inr ⟨hg, h1, rfl, rfl⟩
  · intro hs
    unfold stepE at *
    rcases hs with ⟨hg, hs⟩ | ⟨hg, h1, _, _⟩
    · refine .inl ⟨hg, .inr ?_⟩
      rcases hs with ⟨f, args, tys, g, cap, hop', _⟩ | hs
      · rw [hop] at hop'; cases hop'
      · rw [e1, Option.map_eq_some_iff] at hs
        obtain ⟨⟨d1, h1, h2⟩, hok⟩ := hs
        simp only [Prod.mk.injEq, and_true] at h2
        subst h2
        rw [e2, k2 h1]; exact ⟨rfl, by rw [okW_load hop] at hok; exact hok⟩
    · exact .inr ⟨hg, h1, rfl, rfl⟩
def newB (o : Oper) : Bool :=
  match o.op with
  | .alloc _ => true
  | _ => false
def SameF (st : St) (H : HM) (nx : Nat) : Prop := st.nx ≤ nx ∧ ∀ id, id < st.nx → ∀ e cs, st.H id = some (.box e cs) → H id = some (.box e cs)
theorem stepE_newB {own : List Nat} {ops : Array Oper} {o : Oper} {st : St} {d : D} {H : HM} {nx : Nat} (hk : newB o = true) (hs : stepE P own ops o st d H nx) : SameF st H nx := by
  have h0 : SameF st st.H st.nx := ⟨Nat.le_refl _, fun _ _ _ _ h => h⟩
  unfold newB at hk
  split at hk
  · rename_i e hop
    unfold stepE at hs
    rcases hs with ⟨hg, ⟨f, args, tys, g, cap, hop2, _⟩ | hs⟩ | ⟨hg, h1, h2, h3⟩
    · rw [hop] at hop2; cases hop2
    · unfold opR at hs
      simp only [hop, Option.map_eq_some_iff, Prod.mk.injEq] at hs
      obtain ⟨⟨zs, _, _, rfl, rfl⟩, _⟩ := hs
      refine ⟨Nat.le_succ _, fun id hlt e cs h => ?_⟩
      unfold updH
      rw [if_neg (by omega)]; exact h
    · subst h2; subst h3; exact h0
  · cases hk
theorem loadB_sameF {st : St} {H : HM} {nx : Nat} {t : TypeId} {p d : D} (hb : SameF st H nx) (h : loadB P st.H st.nx t p = some d) : loadB P H nx t p = some d := by
  cases p <;> first | exact h | skip
  rename_i id off
  simp only [loadB, loadD] at h ⊢
  split at h
  · rename_i hlt
    rw [if_pos (Nat.lt_of_lt_of_le hlt hb.1)]
    split at h
    · rename_i hid
      rw [hb.2 id hlt _ _ hid]; exact h
    · cases h
  · cases h
theorem stepE_looksF {own : List Nat} {ops : Array Oper} {o : Oper} {st : St} {d : D} {H : HM} {nx : Nat} (hl : looksB own o = true) (hb : SameF st H nx) (hs : stepE P own ops o st d st.H st.nx) : stepE P own ops o (st.withH H nx) d H nx := by
  obtain ⟨t, p, hop, hop2⟩ := looksB_opR (P := P) hl
  have e1 : opR P own o (st.withH H nx) = (loadB P H nx t (st.ev p)).map fun d => (d, H, nx) := by rw [hop2, ev_withH]; rfl
  have e2 : opR P own o st = (loadB P st.H st.nx t (st.ev p)).map fun d => (d, st.H, st.nx) := by rw [hop2]; rfl
  unfold stepE at *
  rcases hs with ⟨hg, hs⟩ | ⟨hg, h1, _, _⟩
  · refine .inl ⟨hg, .inr ?_⟩
    rcases hs with ⟨f, args, tys, g, cap, hop', _⟩ | hs
    · rw [hop] at hop'; cases hop'
    · rw [e2, Option.map_eq_some_iff] at hs
      obtain ⟨⟨d1, h1, h2⟩, hok⟩ := hs
      simp only [Prod.mk.injEq, and_true] at h2
      subst h2
      rw [e1, loadB_sameF hb h1]; exact ⟨rfl, by rw [okW_load hop]; exact hok⟩
  · exact .inr ⟨hg, h1, rfl, rfl⟩
def looksR (own : List Nat) (o : Oper) : Bool :=
  match o.op with
  | .load .. => isMark 6000000 own o.dst && !isMark 3000000 own o.dst
  | .indexAddr .. => isMark 6000000 own o.dst && !isMark 3000000 own o.dst
  | _ => false
def keepsW (own : List Nat) (o : Oper) : Bool :=
  match o.op with
  | .buildSlice .. => isMark 7000000 own o.dst && isOwn own o.dst
  | .alloc _ => isMark 7000000 own o.dst
  | .call { callee := .builtin .append, .. } => isMark 7000000 own o.dst && !isMark 1000000 own o.dst
  | _ => false
theorem updH_ne' {H : HM} {i j : Nat} {o : Option HObj} (h : ¬ j = i) : updH H i o j = H j := if_neg h
def SameL (B : Nat) (H H' : HM) : Prop := ∀ id, id < B → H' id = H id
theorem cutB_same {B : Nat} {H H' : HM} (h : SameL B H H') : cutB B H' = cutB B H := by
  funext id
  unfold cutB
  split
  · rename_i hlt; exact h id hlt
  · rfl
theorem looksR_cls {own : List Nat} {o : Oper} (hl : looksR own o = true) : cls own o = 1 := by
  unfold looksR at hl
  split at hl
  · rename_i hop; unfold cls; rw [hop]
  · rename_i hop
    simp only [Bool.and_eq_true, Bool.not_eq_true'] at hl
    unfold cls; rw [hop]; simp only [hl.2, Bool.false_eq_true, if_false]
  · cases hl
theorem looksR_opR {own : List Nat} {o : Oper} (hl : looksR own o = true) {st : St} {H : HM} {nx : Nat} (h : SameL (boundB own) st.H H) (d : D) :
    (opR P own o st = some (d, st.H, st.nx) ↔ opR P own o (st.withH H nx) = some (d, H, nx)) := by
  have hc := cutB_same h
  unfold looksR at hl
  split at hl
  · rename_i t p hop
    simp only [Bool.and_eq_true, Bool.not_eq_true'] at hl
    unfold opR
    simp only [hop, loadG, hl.1, hl.2, Bool.false_eq_true, if_false, if_true, ev_withH]
    show (st.keep _ = _) ↔ ((st.withH H nx).keep (loadD P (cutB (boundB own) H) t (st.ev p)) = _)
    rw [hc]
    simp only [St.keep, Option.map_eq_some_iff, Prod.mk.injEq]
    constructor
    · rintro ⟨a, h1, h2, _⟩; exact ⟨a, h1, h2, by simp [St.withH]⟩
    · rintro ⟨a, h1, h2, _⟩; exact ⟨a, h1, h2, by simp⟩
  · rename_i t x i hop
    simp only [Bool.and_eq_true, Bool.not_eq_true'] at hl
    unfold opR
    simp only [hop, hmG, hl.1, hl.2, Bool.false_eq_true, if_false, if_true, ev_withH]
    show (st.keep _ = _) ↔ ((st.withH H nx).keep (indexAddrD P (cutB (boundB own) H) t (st.ev x) (st.ev i)) = _)
    rw [hc]
    simp only [St.keep, Option.map_eq_some_iff, Prod.mk.injEq]
    constructor
    · rintro ⟨a, h1, h2, _⟩; exact ⟨a, h1, h2, by simp [St.withH]⟩
    · rintro ⟨a, h1, h2, _⟩; exact ⟨a, h1, h2, by simp⟩
  · cases hl
theorem stepE_looksR {own : List Nat} {ops : Array Oper} {o : Oper} {st : St} {d : D} {H : HM} {nx : Nat} (hl : looksR own o = true) (h : SameL (boundB own) st.H H) :
    stepE P own ops o st d st.H st.nx ↔ stepE P own ops o (st.withH H nx) d H nx := by
  have hok : okW own o (st.withH H nx) = okW own o st := by
    unfold looksR at hl
    split at hl
    · rename_i hop; exact okW_load hop
    · rename_i hop; unfold okW; rw [hop]
    · cases hl
  have hno : ∀ f args tys, o.op ≠ .call { callee := .value f, args := args, argTypes := tys } := fun f args tys e => by unfold looksR at hl; rw [e] at hl; cases hl
  have hr := looksR_opR (P := P) hl (nx := nx) h d
  unfold stepE
  rw [guard_withH]
  constructor
  · rintro (⟨hg, ⟨f, args, tys, g, cap, hop, _⟩ | hs⟩ | ⟨hg, h1, _, _⟩)
    · exact (hno _ _ _ hop).elim
    · exact .inl ⟨hg, .inr ⟨hr.1 hs.1, by rw [hok]; exact hs.2⟩⟩
    · exact .inr ⟨hg, h1, rfl, rfl⟩
  · rintro (⟨hg, ⟨f, args, tys, g, cap, hop, _⟩ | hs⟩ | ⟨hg, h1, _, _⟩)
    · exact (hno _ _ _ hop).elim
    · exact .inl ⟨hg, .inr ⟨hr.2 hs.1, by rw [← hok]; exact hs.2⟩⟩
    · exact .inr ⟨hg, h1, rfl, rfl⟩
theorem appendD_sameL {B : Nat} {H : HM} {nx : Nat} {t : TypeId} {x y d : D} {H' : HM} {nx' : Nat} (h : appendD P H nx t x y = some (d, H', nx')) (hx : ∀ id n, x = .osl id n → B ≤ id) (hn : B ≤ nx) : SameL B H H' ∧ ∀ id n, d = .osl id n → B ≤ id := by
  unfold appendD at h
  split at h
  · split at h
    · simp only [Option.bind_eq_some_iff] at h
      obtain ⟨⟨m, news⟩, _, h⟩ := h
      simp only at h
      split at h
      · split at h
        · simp only [Option.some.injEq, Prod.mk.injEq] at h
          obtain ⟨rfl, rfl, _⟩ := h
          exact ⟨fun id hid => updH_ne' (by omega), fun id n e => by cases e; exact hn⟩
        · cases h
      · rename_i id0 n0
        have hb := hx _ _ rfl
        split at h
        · split at h
          · simp only [Option.some.injEq, Prod.mk.injEq] at h
            obtain ⟨rfl, rfl, _⟩ := h
            exact ⟨fun id hid => updH_ne' (by omega), fun id n e => by cases e; exact hb⟩
          · cases h
        · cases h
      · cases h
    · cases h
  · cases h
theorem shutR_sameL {B : Nat} {d d' : D} {H H' : HM} {nx nx' : Nat} (h : shutR P (d, H, nx) = some (d', H', nx')) (hd : ∀ id n, d = .osl id n → B ≤ id) : SameL B H H' := by
  unfold shutR at h
  split at h
  · rename_i id n H0 nx0 e
    simp only [Prod.mk.injEq] at e
    obtain ⟨rfl, rfl, rfl⟩ := e
    have hb := hd _ _ rfl
    split at h
    · split at h
      · simp only [Option.some.injEq, Prod.mk.injEq] at h
        obtain ⟨_, rfl, _⟩ := h
        exact fun id hid => updH_ne' (by omega)
      · cases h
    · cases h
  · cases h
theorem stepE_keepsW {own : List Nat} {ops : Array Oper} {o : Oper} {st : St} {d : D} {H : HM} {nx : Nat} (hk : keepsW own o = true) (hs : stepE P own ops o st d H nx) : SameL (boundB own) st.H H := by
  have h0 : SameL (boundB own) st.H st.H := fun _ _ => rfl
  unfold stepE at hs
  rcases hs with ⟨hg, ⟨f, args, tys, g, cap, hop, _⟩ | ⟨hs, hok⟩⟩ | ⟨hg, h1, h2, h3⟩
  · unfold keepsW at hk; rw [hop] at hk; cases hk
  · unfold keepsW at hk
    unfold okW at hok
    unfold opR at hs
    split at hk
    · rename_i hop
      simp only [Bool.and_eq_true] at hk
      simp only [hop, hk.1, hk.2, and_self, if_true, decide_eq_true_eq] at hok hs
      split at hs
      · split at hs
        · simp only [Option.bind_eq_some_iff] at hs
          obtain ⟨cs, _, hs⟩ := hs
          simp only [Option.some.injEq, Prod.mk.injEq] at hs
          obtain ⟨_, rfl, _⟩ := hs
          exact fun id hid => updH_ne' (by omega)
        · cases hs
      · cases hs
    · rename_i hop
      simp only [hop, hk, if_true, decide_eq_true_eq, Option.map_eq_some_iff, Prod.mk.injEq] at hok hs
      obtain ⟨zs, _, _, rfl, _⟩ := hs
      exact fun id hid => updH_ne' (by omega)
    · rename_i hop
      simp only [Bool.and_eq_true, Bool.not_eq_true'] at hk
      simp only [hop, hk.1, if_true] at hok hs
      split at hs
      all_goals first
        | (simp only [reduceCtorEq] at *; done)
        | skip
      · rename_i hargs _
        split at hs
        · simp only [hk.2, Bool.false_eq_true, if_false] at hs
          simp only [hargs] at hok
          have hx : ∀ id n, st.ev _ = .osl id n → boundB own ≤ id := fun id n e => by
            rw [e] at hok
            simp only [decide_eq_true_eq] at hok
            exact hok.1
          have hn : boundB own ≤ st.nx := by
            split at hok
            · simp only [decide_eq_true_eq] at hok; exact hok.2
            · simp only [decide_eq_true_eq] at hok; exact hok
          split at hs
          · simp only [Option.bind_eq_some_iff] at hs
            obtain ⟨⟨d1, H1, n1⟩, h1, h2⟩ := hs
            obtain ⟨g1, g2⟩ := appendD_sameL h1 hx hn
            have g3 := shutR_sameL h2 g2
            exact fun id hid => (g3 id hid).trans (g1 id hid)
          · exact (appendD_sameL hs hx hn).1
        · cases hs
    · cases hk
  · subst h2; exact h0
def touch (own : List Nat) (o : Oper) : Option Nat :=
  match o.op with
  | .store _ p _ => (slotOf p).bind fun i => touchOf i own
  | .load _ _ => if isMark 3000000 own o.dst = true ∨ isMark 6000000 own o.dst = true then none else o.dst.bind fun i => touchOf i own
  | _ => none
theorem loadD_ptr {H H' : HM} {t : TypeId} {id off : Nat} (h : H' id = H id) : loadD P H' t (.ptr id off) = loadD P H t (.ptr id off) := by
  unfold loadD; simp only [h]
theorem storeD_ptr {H H1 : HM} {t : TypeId} {id off : Nat} {v : D} (h : storeD P H t (.ptr id off) v = some H1) : (∀ j, j ≠ id → H1 j = H j) ∧ ∀ H', H' id = H id → storeD P H' t (.ptr id off) v = some fun j => if j = id then H1 id else H' j := by
  unfold storeD at h
  split at h
  · rename_i vs hv
    split at h
    · rename_i hl
      simp only at h
      split at h
      · rename_i e cs hH
        split at h
        · rename_i hle
          simp only [Option.some.injEq] at h
          subst h
          refine ⟨fun j hj => by unfold updH; rw [if_neg hj], fun H' hH' => ?_⟩
          unfold storeD
          simp only [hv, hH', hH, if_pos hl, if_pos hle, Option.some.injEq]
          funext j
          unfold updH
          by_cases h1 : j = id
          · rw [if_pos h1, if_pos h1, if_pos rfl]
          · rw [if_neg h1, if_neg h1]
        · cases h
      · cases h
    · cases h
  · cases h
theorem stepE_touch {own : List Nat} {ops : Array Oper} {o : Oper} {st : St} {d : D} {H : HM} {nx a : Nat} (hk : touch own o = some a) (hs : stepE P own ops o st d H nx) :
    (H = st.H ∧ nx = st.nx ∧ ∀ H2 n2, stepE P own ops o (st.withH H2 n2) d H2 n2) ∨
    ∃ id, id + 900000 = a ∧ nx = st.nx ∧ (∀ j, j ≠ id → H j = st.H j) ∧ ∀ H2 n2, H2 id = st.H id → stepE P own ops o (st.withH H2 n2) d (fun j => if j = id then H id else H2 j) n2 := by
  unfold touch at hk
  split at hk
  · rename_i t p v hop
    simp only [Option.bind_eq_some_iff] at hk
    obtain ⟨i, hi, hk⟩ := hk
    unfold stepE at hs
    rcases hs with ⟨hg, ⟨f, args, tys, g, cap, hop', _⟩ | ⟨hs, hok⟩⟩ | ⟨hg, h1, h2, h3⟩
    · rw [hop] at hop'; cases hop'
    · refine .inr ?_
      have hw : ∀ H2 n2, okW own o (st.withH H2 n2) = true := fun H2 n2 => by
        rw [← hok]; unfold okW; rw [hop]; rfl
      unfold okW at hok
      rw [hop] at hok
      simp only [okT, hi, hk] at hok
      split at hok
      · rename_i id off he
        rw [decide_eq_true_eq] at hok
        have e : ∀ st : St, opR P own o st = (storeD P st.H t (st.ev p) (st.ev v)).map fun x => (.any, x, st.nx) := fun st => by unfold opR; rw [hop]
        rw [e, Option.map_eq_some_iff] at hs
        obtain ⟨H1, h1, h2⟩ := hs
        simp only [Prod.mk.injEq] at h2
        obtain ⟨rfl, rfl, rfl⟩ := h2
        rw [he] at h1
        obtain ⟨g1, g2⟩ := storeD_ptr h1
        refine ⟨id, hok, rfl, g1, fun H2 n2 hH2 => .inl ⟨hg, .inr ⟨?_, hw H2 n2⟩⟩⟩
        rw [e, ev_withH, he]
        show (storeD P H2 t (.ptr id off) (st.ev v)).map _ = _
        rw [g2 H2 hH2]; rfl
      · cases hok
    · exact .inl ⟨h2, h3, fun H2 n2 => .inr ⟨hg, h1, rfl, rfl⟩⟩
  · rename_i t p hop
    split at hk
    · cases hk
    rename_i hm
    rw [not_or] at hm
    simp only [Option.bind_eq_some_iff] at hk
    obtain ⟨i, hi, hk⟩ := hk
    unfold stepE at hs
    rcases hs with ⟨hg, ⟨f, args, tys, g, cap, hop', _⟩ | ⟨hs, hok⟩⟩ | ⟨hg, h1, h2, h3⟩
    · rw [hop] at hop'; cases hop'
    · refine .inr ?_
      have hw : ∀ H2 n2, okW own o (st.withH H2 n2) = true := fun H2 n2 => by
        rw [← hok]; unfold okW; rw [hop]; rfl
      unfold okW at hok
      rw [hop] at hok
      simp only [okT, hi, hk] at hok
      split at hok
      · rename_i id off he
        rw [decide_eq_true_eq] at hok
        have e : ∀ st : St, opR P own o st = st.keep (loadD P st.H t (st.ev p)) := fun st => by
          unfold opR; rw [hop]
          simp only [loadG, if_neg hm.1, if_neg hm.2]
        rw [e] at hs
        obtain ⟨h1, rfl, rfl⟩ := keep_some hs
        refine ⟨id, hok, rfl, fun _ _ => rfl, fun H2 n2 hH2 => ?_⟩
        have e2 : (fun j => if j = id then st.H id else H2 j) = H2 := by
          funext j
          by_cases hj : j = id
          · rw [if_pos hj, hj, hH2]
          · rw [if_neg hj]
        rw [e2]
        refine .inl ⟨hg, .inr ⟨?_, hw H2 n2⟩⟩
        rw [he] at h1
        rw [e, keep_withH, ev_withH, he]
        show (loadD P H2 t (.ptr id off)).map _ = _
        rw [loadD_ptr hH2, h1]; rfl
      · cases hok
    · exact .inl ⟨h2, h3, fun H2 n2 => .inr ⟨hg, h1, rfl, rfl⟩⟩
  · cases hk
def apartT (own : List Nat) (x y : Oper) : Bool :=
  match touch own x, touch own y with
  | some a, some b => a != b
  | _, _ => false
theorem swap_touch {own : List Nat} {ops : Array Oper} {x y : Oper} {st : St} {dx dy : D} {H1 H2 : HM} {n1 n2 : Nat} (ha : apartT own x y = true) (hx : stepE P own ops x st dx H1 n1) (hy : stepE P own ops y (st.withH H1 n1) dy H2 n2) :
    ∃ H3 n3, stepE P own ops y st dy H3 n3 ∧ stepE P own ops x (st.withH H3 n3) dx H2 n2 := by
  unfold apartT at ha
  split at ha
  · rename_i a b ea eb
    rw [bne_iff_ne] at ha
    rcases stepE_touch ea hx with ⟨rfl, rfl, hany⟩ | ⟨i, hi, rfl, h1, hx2⟩
    · exact ⟨H2, n2, hy, hany H2 n2⟩
    · rcases stepE_touch eb hy with ⟨rfl, rfl, hany2⟩ | ⟨j, hj, rfl, h2, hy2⟩
      · exact ⟨st.H, st.nx, hany2 st.H st.nx, by
          have := hx2 st.H st.nx rfl
          have e : (fun j => if j = i then H2 i else st.H j) = H2 := by
            funext j
            by_cases hj : j = i
            · rw [if_pos hj, hj]
            · rw [if_neg hj, h1 j hj]
          rw [e] at this; exact this⟩
      · have hne : i ≠ j := by omega
        refine ⟨fun k => if k = j then H2 j else st.H k, st.nx, hy2 st.H st.nx (h1 j fun e => hne e.symm).symm, ?_⟩
        have := hx2 (fun k => if k = j then H2 j else st.H k) st.nx (by rw [if_neg hne])
        have e : (fun k => if k = i then H1 i else if k = j then H2 j else st.H k) = H2 := by
          funext k
          by_cases h3 : k = i
          · rw [if_pos h3, h3]; exact (h2 i hne).symm
          · rw [if_neg h3]
            by_cases h4 : k = j
            · rw [if_pos h4, h4]
            · rw [if_neg h4, h2 k h4]; exact (h1 k h3).symm
        rw [e] at this; exact this
  · cases ha
def pairOK (own : List Nat) (ops : Array Oper) (x y : Oper) : Bool :=
  x.apart ops y && (cls own x == 0 || cls own y == 0 || (cls own x == 1 && cls own y == 1) || (looksB own x && keepsB own y) || (keepsB own x && looksB own y) || (looksB own x && newB y) || (looksR own x && keepsW own y) || (keepsW own x && looksR own y) || apartT own x y)

theorem swap {own : List Nat} {ops : Array Oper} {x y : Oper} {st : St} {dx dy : D} {H1 H2 : HM} {n1 n2 : Nat} (hp : pairOK own ops x y = true)
    (hx : stepE P own ops x st dx H1 n1) (hy : stepE P own ops y (st.next x dx H1 n1) dy H2 n2) :
    ∃ H3 n3, stepE P own ops y st dy H3 n3 ∧ stepE P own ops x (st.next y dy H3 n3) dx H2 n2 ∧ (st.next x dx H1 n1).next y dy H2 n2 = (st.next y dy H3 n3).next x dx H2 n2 := by
  simp only [pairOK, Bool.and_eq_true, Bool.or_eq_true, beq_iff_eq] at hp
  obtain ⟨hap, hc⟩ := hp
  obtain ⟨ha1, ha2, ha3⟩ := Oper.apart_spec hap
  have ty : ∀ t ∈ y.looksAt ops, (st.next x dx H1 n1).t t = st.t t := fun t ht => next_other (fun e => ha1 t e ht)
  have tx : ∀ H n t, t ∈ x.looksAt ops → st.t t = (st.next y dy H n).t t := fun H n t ht => (next_other (fun e => ha3 t e ht)).symm
  have hcomm := fun H3 n3 => next_comm (st := st) (x := x) (y := y) (dx := dx) (dy := dy) (H1 := H1) (H2 := H3) (H3 := H2) (n1 := n1) (n2 := n3) (n3 := n2) ha2
  rcases hc with (((((((hc | hc) | ⟨hc1, hc2⟩) | ⟨hl, hk⟩) | ⟨hk, hl⟩) | ⟨hl, hk⟩) | ⟨hl, hk⟩) | ⟨hk, hl⟩) | hl
  · -- x looks at nothing and changes nothing
    obtain ⟨rfl, rfl, hany⟩ := stepE_cls0 hc hx
    refine ⟨H2, n2, stepE_congr ty (next_H ..) (next_nx ..) hy, ?_, hcomm _ _⟩
    exact stepE_congr (st := st.withH H2 n2) (fun t ht => tx _ _ t ht) (next_H ..).symm (next_nx ..).symm (hany H2 n2)
  · obtain ⟨h1, h2, hany⟩ := stepE_cls0 hc hy
    rw [next_H] at h1; rw [next_nx] at h2
    subst h1; subst h2
    have hy' := hany st.H st.nx
    refine ⟨st.H, st.nx, stepE_congr (st := (st.next x dx H2 n2).withH st.H st.nx) ty rfl rfl hy', ?_, hcomm _ _⟩
    exact stepE_congr (fun t ht => tx _ _ t ht) (next_H ..).symm (next_nx ..).symm hx
  · obtain ⟨rfl, rfl⟩ := stepE_cls1 (by omega) hx
    obtain ⟨h1, h2⟩ := stepE_cls1 (by omega) hy
    rw [next_H] at h1; rw [next_nx] at h2
    subst h1; subst h2
    refine ⟨st.H, st.nx, stepE_congr ty (next_H ..) (next_nx ..) hy, ?_, hcomm _ _⟩
    exact stepE_congr (fun t ht => tx _ _ t ht) (next_H ..).symm (next_nx ..).symm hx
  · -- x looks into boxes, y leaves them
    obtain ⟨rfl, rfl⟩ := stepE_cls1 (by rw [looksB_cls hl]; omega) hx
    have hy' : stepE P own ops y st dy H2 n2 := stepE_congr ty (next_H ..) (next_nx ..) hy
    have hs := stepE_keepsB hk hy'
    refine ⟨H2, n2, hy', ?_, hcomm _ _⟩
    exact stepE_congr (st := st.withH H2 n2) (fun t ht => tx _ _ t ht) (next_H ..).symm (next_nx ..).symm ((stepE_looksB hl hs).1 hx)
  · have hs := stepE_keepsB hk hx
    obtain ⟨h1, h2⟩ := stepE_cls1 (by rw [looksB_cls hl]; omega) hy
    rw [next_H] at h1; rw [next_nx] at h2
    subst h1; subst h2
    have hy' : stepE P own ops y (st.withH H2 n2) dy H2 n2 := stepE_congr ty (next_H ..) (next_nx ..) hy
    refine ⟨st.H, st.nx, (stepE_looksB hl hs).2 hy', ?_, hcomm _ _⟩
    exact stepE_congr (fun t ht => tx _ _ t ht) (next_H ..).symm (next_nx ..).symm hx

  · obtain ⟨rfl, rfl⟩ := stepE_cls1 (by rw [looksB_cls hl]; omega) hx
    have hy' : stepE P own ops y st dy H2 n2 := stepE_congr ty (next_H ..) (next_nx ..) hy
    have hs := stepE_newB hk hy'
    refine ⟨H2, n2, hy', ?_, hcomm _ _⟩
    exact stepE_congr (st := st.withH H2 n2) (fun t ht => tx _ _ t ht) (next_H ..).symm (next_nx ..).symm (stepE_looksF hl hs hx)

  · obtain ⟨rfl, rfl⟩ := stepE_cls1 (by rw [looksR_cls hl]; omega) hx
    have hy' : stepE P own ops y st dy H2 n2 := stepE_congr ty (next_H ..) (next_nx ..) hy
    have hs := stepE_keepsW hk hy'
    refine ⟨H2, n2, hy', ?_, hcomm _ _⟩
    exact stepE_congr (st := st.withH H2 n2) (fun t ht => tx _ _ t ht) (next_H ..).symm (next_nx ..).symm ((stepE_looksR hl hs).1 hx)
  · have hs := stepE_keepsW hk hx
    obtain ⟨h1, h2⟩ := stepE_cls1 (by rw [looksR_cls hl]; omega) hy
    rw [next_H] at h1; rw [next_nx] at h2
    subst h1; subst h2
    have hy' : stepE P own ops y (st.withH H2 n2) dy H2 n2 := stepE_congr ty (next_H ..) (next_nx ..) hy
    refine ⟨st.H, st.nx, (stepE_looksR hl hs).2 hy', ?_, hcomm _ _⟩
    exact stepE_congr (fun t ht => tx _ _ t ht) (next_H ..).symm (next_nx ..).symm hx
  · have hy' : stepE P own ops y (st.withH H1 n1) dy H2 n2 := stepE_congr ty (next_H ..) (next_nx ..) hy
    obtain ⟨H3, n3, g1, g2⟩ := swap_touch hl hx hy'
    exact ⟨H3, n3, g1, stepE_congr (st := st.withH H3 n3) (fun t ht => tx _ _ t ht) (next_H ..).symm (next_nx ..).symm g2, hcomm _ _⟩

def runL (P : Program) (own : List Nat) (ops : Array Oper) (K : St → Prop) : List Nat → St → Prop
  | [], st => K st
  | i :: rest, st => ∃ o d H nx, ops[i]? = some o ∧ stepE P own ops o st d H nx ∧ runL P own ops K rest (st.next o d H nx)

theorem pull {own : List Nat} {ops : Array Oper} {K : St → Prop} {i : Nat} {oi : Oper} (hi : ops[i]? = some oi) : ∀ (r1 r2 : List Nat) (st : St),
    (∀ j ∈ r1, ∀ oj, ops[j]? = some oj → pairOK own ops oj oi = true) → runL P own ops K (r1 ++ i :: r2) st → runL P own ops K (i :: (r1 ++ r2)) st
  | [], r2, st, _, h => h
  | j :: r1, r2, st, hp, h => by
    simp only [List.cons_append, runL] at h
    obtain ⟨oj, dj, Hj, nj, hoj, hsj, h⟩ := h
    have h' := pull hi r1 r2 _ (fun k hk => hp k (List.mem_cons_of_mem _ hk)) h
    simp only [runL] at h'
    obtain ⟨o', di, Hi, ni, hoi, hsi, h'⟩ := h'
    rw [hi] at hoi
    cases hoi
    obtain ⟨H3, n3, h1, h2, h3⟩ := swap (hp j (by simp) oj hoj) hsj hsi
    simp only [List.cons_append, runL]
    exact ⟨oi, di, H3, n3, hi, h1, oj, dj, Hi, ni, hoj, h2, by rw [← h3]; exact h'⟩

def reach (ops : Array Oper) : Nat → Nat → Nat → Bool
  | 0, _, _ => false
  | n + 1, j, i => match ops[i]? with
    | some o => o.after.toList.any fun e => Region.binds .any e && (e.on == j || (decide (j < e.on) && reach ops n j e.on))
    | none => false
def drawOK (own : List Nat) (ops : Array Oper) : Bool :=
  (List.range ops.size).all fun i => match ops[i]? with
    | none => true
    | some oi => (oi.after.toList.all fun e => !Region.binds .any e || decide (e.on < i)) &&
      (List.range i).all fun j => match ops[j]? with
        | some oj => pairOK own ops oj oi || reach ops ops.size j i
        | none => true

def Closed (ops : Array Oper) (listed : Array Bool) : Prop :=
  ∀ k o, ops[k]? = some o → listed.getD k true = true → ∀ e ∈ o.after.toList, Region.binds .any e = true → listed.getD e.on false = true

theorem reach_listed {ops : Array Oper} {listed : Array Bool} (hsz : listed.size = ops.size) (hc : Closed ops listed) : ∀ (n j i : Nat), reach ops n j i = true →
    (∀ o, ops[i]? = some o → ∀ e ∈ o.after.toList, Region.binds .any e = true → listed.getD e.on false = true) → listed.getD j false = true
  | 0, j, i, h, _ => by cases h
  | n + 1, j, i, h, hi => by
    simp only [reach] at h
    split at h
    · rename_i o ho
      obtain ⟨e, he, hb⟩ := List.any_eq_true.1 h
      simp only [Bool.and_eq_true, Bool.or_eq_true, beq_iff_eq, decide_eq_true_eq] at hb
      obtain ⟨hb1, hb2⟩ := hb
      have hl := hi o ho e he hb1
      rcases hb2 with rfl | ⟨_, hr⟩
      · exact hl
      · refine reach_listed hsz hc n j e.on hr fun o' ho' => hc e.on o' ho' ?_
        have hlt : e.on < ops.size := (Array.getElem?_eq_some_iff.1 ho').1
        simp only [Array.getD_eq_getD_getElem?] at hl ⊢
        rw [Array.getElem?_eq_getElem (by omega)] at hl ⊢
        simpa using hl
    · cases h

def rem (ops : Array Oper) (listed : Array Bool) : List Nat := (List.range ops.size).filter fun i => !listed.getD i true

theorem filter_split {p : Nat → Bool} : ∀ (l : List Nat) (i : Nat), l.Pairwise (· < ·) → i ∈ l → p i = true → ∃ r1 r2, l.filter p = r1 ++ i :: r2 ∧ l.filter (fun k => p k && k != i) = r1 ++ r2 ∧ ∀ j ∈ r1, j < i ∧ p j = true
  | [], i, _, hi, _ => by cases hi
  | a :: l, i, hs, hi, hp => by
    have hs' := List.pairwise_cons.1 hs
    rcases List.mem_cons.1 hi with rfl | hi
    · refine ⟨[], l.filter p, by simp [hp], ?_, by simp⟩
      simp only [List.filter_cons, hp, bne_self_eq_false, Bool.and_false, Bool.false_eq_true, if_false, List.nil_append]
      refine List.filter_congr fun k hk => ?_
      have : k ≠ i := by have := hs'.1 k hk; omega
      simp [this]
    · obtain ⟨r1, r2, h1, h2, h3⟩ := filter_split l i hs'.2 hi hp
      have hai : a < i := hs'.1 i hi
      have hne : (a != i) = true := by simp; omega
      by_cases hpa : p a = true
      · refine ⟨a :: r1, r2, by simp [hpa, h1], by simp [hpa, hne, h2], fun j hj => ?_⟩
        rcases List.mem_cons.1 hj with rfl | hj
        · exact ⟨hai, hpa⟩
        · exact h3 j hj
      · refine ⟨r1, r2, by simp [hpa, h1], by simp [hpa, h2], h3⟩

theorem getD_set (l : Array Bool) (i k : Nat) : (l.setIfInBounds i true).getD k true = (l.getD k true || k == i) := by
  simp only [Array.getD_eq_getD_getElem?, Array.getElem?_setIfInBounds]
  by_cases h : i = k
  · subst h
    by_cases h2 : i < l.size <;> simp [h2]
  · have : (k == i) = false := by simp; omega
    simp [h, this]
theorem getD_set' (l : Array Bool) (i k : Nat) : l.getD k false = true → (l.setIfInBounds i true).getD k false = true := by
  simp only [Array.getD_eq_getD_getElem?, Array.getElem?_setIfInBounds]
  by_cases h : i = k
  · subst h
    by_cases h2 : i < l.size <;> simp [h2]
  · simp [h]

theorem opW_of_step {own : List Nat} {ops : Array Oper} {o : Oper} {st : St} {d : D} {H : HM} {nx : Nat} (hg : guardD ops st o = some true) (hs : stepE P own ops o st d H nx) : opW P own o st (fun st' => st' = st.next o d H nx) := by
  unfold stepE at hs
  rcases hs with ⟨_, hs⟩ | ⟨hg2, _⟩
  · rcases hs with ⟨f, args, tys, g, cap, hop, hf, ⟨_, hrc, rfl, rfl⟩ | ⟨_, hrc, rfl, rfl⟩ | ⟨_, _, hac, _⟩⟩ | hs
    · unfold opW
      rw [hop]
      simp only [hf]
      exact AC.mono hrc fun r H nx ⟨h1, h2, h3⟩ => by subst h1; subst h2; subst h3; rfl
    · unfold opW
      rw [hop]
      simp only [hf]
      exact AC.mono (hrc _ _) fun r H nx ⟨h1, h2, h3⟩ => by subst h1; subst h2; subst h3; rfl
    · unfold opW
      rw [hop]
      simp only [hf]
      exact AC.mono hac fun r H nx ⟨h1, h2, h3⟩ => by subst h1; subst h2; subst h3; rfl
    · obtain ⟨hs, _⟩ := hs
      unfold opW
      split
      · rename_i f args tys hop
        unfold opR at hs
        rw [hop] at hs
        cases hs
      · rw [hs]; rfl
  · rw [hg] at hg2; cases hg2

theorem any_sound {N : Nat} {own : List Nat} {ops : Array Oper} {K : St → Prop} {Q : Exit → Act → World → Prop} (hok : drawOK own ops = true) (hdst : ∀ (i : Nat) o, ops[i]? = some o → dstOK N o = true) :
    ∀ (fuel : Nat) (listed : Array Bool) (st : St) (s : RS) (a : Act) (w : World), (rem ops listed).length ≤ fuel → listed.size = ops.size → Closed ops listed → runL P own ops K (rem ops listed) st → Fr P N st s a w →
    (∀ st' s' a' w', K st' → Fr P N st' s' a' w' → Step s w s' w' → Q .normal a' w') → wpAny P .any ops Q fuel listed a w := by
  have hready : ∀ listed i, i ∈ Region.ready .any ops listed → i < ops.size ∧ listed.getD i true = false ∧ ∀ o, ops[i]? = some o → ∀ e ∈ o.after.toList, Region.binds .any e = true → listed.getD e.on false = true := by
    intro listed i hi
    simp only [Region.ready, List.mem_filter, List.mem_range, Bool.and_eq_true, Bool.not_eq_true'] at hi
    obtain ⟨h1, h2, h3⟩ := hi
    refine ⟨h1, h2, fun o ho e he hb => ?_⟩
    rw [ho] at h3
    simp only [Option.map_some, Option.getD_some, Array.all_eq_true'] at h3
    have := h3 e (by simpa using he)
    simpa [hb] using this
  have hfirst : ∀ listed : Array Bool, listed.size = ops.size → Region.ready .any ops listed = [] → rem ops listed = [] := by
    intro listed hsz hr
    cases hrem : rem ops listed with
    | nil => rfl
    | cons i r =>
      exfalso
      have hmem : ∀ k, k ∈ rem ops listed ↔ k < ops.size ∧ listed.getD k true = false := by
        intro k; simp only [rem, List.mem_filter, List.mem_range, Bool.not_eq_true']
      have hi := (hmem i).1 (by rw [hrem]; simp)
      have hmin : ∀ k, k < i → listed.getD k true = true := by
        intro k hk
        cases hl : listed.getD k true with
        | true => rfl
        | false =>
          have hk' := (hmem k).2 ⟨by omega, hl⟩
          have hpw : (rem ops listed).Pairwise (· < ·) := List.Pairwise.filter _ List.pairwise_lt_range
          rw [hrem] at hk' hpw
          rcases List.mem_cons.1 hk' with rfl | hk'
          · omega
          · have := (List.pairwise_cons.1 hpw).1 k hk'; omega
      have : i ∈ Region.ready .any ops listed := by
        simp only [Region.ready, List.mem_filter, List.mem_range, Bool.and_eq_true, Bool.not_eq_true']
        refine ⟨hi.1, hi.2, ?_⟩
        have hoi := Array.getElem?_eq_getElem hi.1
        rw [hoi]
        simp only [Option.map_some, Option.getD_some, Array.all_eq_true']
        intro e he
        have h1 := List.all_eq_true.1 hok i (by simpa using hi.1)
        rw [hoi] at h1
        simp only [Bool.and_eq_true] at h1
        have h2 := List.all_eq_true.1 h1.1 e (by simpa using he)
        simp only [Bool.or_eq_true, Bool.not_eq_true', decide_eq_true_eq] at h2 ⊢
        rcases h2 with h2 | h2
        · exact .inl h2
        · refine .inr ?_
          have h3 := hmin e.on h2
          have hlt : e.on < listed.size := by omega
          simp only [Array.getD_eq_getD_getElem?, Array.getElem?_eq_getElem hlt, Option.getD_some] at h3 ⊢
          exact h3
      rw [hr] at this; cases this
  intro fuel
  induction fuel with
  | zero =>
    intro listed st s a w hlen _ _ hrun hf hk
    have h0 : rem ops listed = [] := List.eq_nil_of_length_eq_zero (by omega)
    rw [h0] at hrun
    refine ⟨?_, hk st s a w hrun hf (Step.refl s w)⟩
    cases hr : Region.ready .any ops listed with
    | nil => rfl
    | cons i r =>
      have := hready listed i (by rw [hr]; simp)
      have hm : i ∈ rem ops listed := List.mem_filter.2 ⟨by simpa using this.1, by rw [this.2.1]; rfl⟩
      rw [h0] at hm; cases hm
  | succ fuel ih =>
    intro listed st s a w hlen hsz hclosed hrun hf hk
    refine ⟨fun hr => ?_, fun i hi => ?_⟩
    · rw [hfirst listed hsz hr] at hrun
      exact hk st s a w hrun hf (Step.refl s w)
    · obtain ⟨h1, h2, h3⟩ := hready listed i hi
      have hoi := Array.getElem?_eq_getElem h1
      obtain ⟨r1, r2, e1, e2, e3⟩ := filter_split (p := fun k => !listed.getD k true) (List.range ops.size) i List.pairwise_lt_range (by simpa using h1) (by rw [h2]; rfl)
      have hrem : rem ops listed = r1 ++ i :: r2 := e1
      have hrem' : rem ops (listed.setIfInBounds i true) = r1 ++ r2 := by
        rw [← e2]
        refine List.filter_congr fun k _ => ?_
        rw [getD_set]
        cases listed.getD k true <;> simp [bne]
      rw [hrem] at hrun
      have hpull := pull hoi r1 r2 st (fun j hj oj hoj => by
        obtain ⟨hji, hjl⟩ := e3 j hj
        have g1 := List.all_eq_true.1 hok i (by simpa using h1)
        rw [hoi] at g1
        simp only [Bool.and_eq_true] at g1
        have g2 := List.all_eq_true.1 g1.2 j (by simpa using hji)
        rw [hoj] at g2
        simp only [Bool.or_eq_true] at g2
        rcases g2 with g2 | g2
        · exact g2
        · exfalso
          have := reach_listed hsz hclosed _ _ _ g2 h3
          simp only [Bool.not_eq_true'] at hjl
          have hlt : j < listed.size := by omega
          simp only [Array.getD_eq_getD_getElem?, Array.getElem?_eq_getElem hlt, Option.getD_some] at this hjl
          rw [this] at hjl; cases hjl) hrun
      simp only [runL] at hpull
      obtain ⟨o, d, H, nx, ho, hstep, hrest⟩ := hpull
      have hclosed' : Closed ops (listed.setIfInBounds i true) := by
        intro k ok hk' hl e he hb
        rw [getD_set] at hl
        simp only [Bool.or_eq_true, beq_iff_eq] at hl
        rcases hl with hl | rfl
        · exact getD_set' _ _ _ (hclosed k ok hk' hl e he hb)
        · exact getD_set' _ _ _ (h3 ok hk' e he hb)
      have hlen' : (rem ops (listed.setIfInBounds i true)).length ≤ fuel := by
        rw [hrem'] ; rw [hrem] at hlen; simp only [List.length_append, List.length_cons] at hlen ⊢; omega
      have hdo := hdst i o ho
      unfold wpOp
      rw [ho]
      simp only
      have hstep' := hstep
      unfold stepE at hstep'
      rcases hstep' with ⟨hg, _⟩ | ⟨hg, rfl, rfl, rfl⟩
      · rw [if_pos (guard_sound hf hg)]
        refine .inl (opW_sound hf hdo (opW_of_step hg hstep) fun st' s' a' w' hst hf' hs' => ?_)
        subst hst
        exact ih _ _ s' a' w' hlen' (by simpa using hsz) hclosed' (by rw [hrem']; exact hrest) hf' fun st2 s2 a2 w2 hK2 hf2 hs2 => hk st2 s2 a2 w2 hK2 hf2 (hs'.trans hs2)
      · rw [if_neg (by rw [guard_sound hf hg]; simp)]
        exact ih _ _ s _ w hlen' (by simpa using hsz) hclosed' (by rw [hrem']; exact hrest) (hf.put0 hdo rel_undef) hk

end Go.Proofs.YtkhjpcmpljpmjaaGreatDoor.Abs
/-
  The walk of a function's code over abstract states, and its soundness. No condition.
-/
namespace Go.Proofs.YtkhjpcmpljpmjaaGreatDoor.Abs
open Go.RowKit
variable {P : Program}

def opD (P : Program) (own : List Nat) (o : Oper) (st : St) (K : St → Prop) : Prop :=
  match o.op with
  | .call { callee := .value f, args := args, argTypes := _ } =>
    match st.ev f with
    | .fn g cap => (isMark 5000000 own o.dst = false ∧ ∃ r, RC P g (args.toList.map st.ev ++ cap) st.H st.nx r ∧ K (st.put o.dst r)) ∨
        (isMark 5000000 own o.dst = true ∧ ∃ r, (∀ H nx, RC P g (args.toList.map st.ev ++ cap) H nx r) ∧ K (st.put o.dst r)) ∨
        (isMark 5000000 own o.dst = false ∧ isMark 4000000 own o.dst = true ∧ ∃ d H nx, AC P g (args.toList.map st.ev ++ cap) st.H st.nx (fun r' H' nx' => r' = d ∧ H' = H ∧ nx' = nx) ∧ SameB st H nx ∧ K ((st.withH H nx).put o.dst d))
    | _ => False
  | _ => match opR P own o st with
    | some (d, H, nx) => if okW own o st = true then K ({ st with H := H, nx := nx }.put o.dst d) else False
    | none => False
def awpD (P : Program) (own : List Nat) (gs : List (Option Nat)) : List Oper → (St → Prop) → St → Prop
  | [], K, st => K st
  | o :: rest, K, st =>
    match guardS gs st o with
    | some true => opD P own o st (awpD P own gs rest K)
    | some false => awpD P own gs rest K (st.put o.dst (.tup []))
    | none => False

theorem runL_of {own : List Nat} {ops : Array Oper} {K : St → Prop} : ∀ (l : List Oper) (k : Nat) (st : St), (∀ j, l[j]? = ops[k + j]?) → awpD P own (dsts ops) l K st → runL P own ops K (List.range' k l.length) st
  | [], k, st, _, h => h
  | o :: l, k, st, hl, h => by
    have ho : ops[k]? = some o := by simpa using (hl 0).symm
    have hl' : ∀ j, l[j]? = ops[k + 1 + j]? := fun j => by have := hl (j + 1); simpa [Nat.add_assoc, Nat.add_comm 1 j] using this
    simp only [List.length_cons, List.range'_succ, runL]
    simp only [awpD] at h
    rw [guardS_eq] at h
    split at h
    · rename_i hg
      unfold opD at h
      split at h
      · rename_i f args tys hop
        split at h
        · rename_i g cap hf
          rcases h with ⟨h0, r, hrc, h⟩ | ⟨h0, r, hrc, h⟩ | ⟨h0, hm, d, H, nx, hac, hsb, h⟩
          · exact ⟨o, r, st.H, st.nx, ho, .inl ⟨hg, .inl ⟨f, args, tys, g, cap, hop, hf, .inl ⟨h0, hrc, rfl, rfl⟩⟩⟩, runL_of l (k + 1) _ hl' h⟩
          · exact ⟨o, r, st.H, st.nx, ho, .inl ⟨hg, .inl ⟨f, args, tys, g, cap, hop, hf, .inr (.inl ⟨h0, hrc, rfl, rfl⟩)⟩⟩, runL_of l (k + 1) _ hl' h⟩
          · exact ⟨o, d, H, nx, ho, .inl ⟨hg, .inl ⟨f, args, tys, g, cap, hop, hf, .inr (.inr ⟨h0, hm, hac, hsb⟩)⟩⟩, runL_of l (k + 1) _ hl' h⟩
        · cases h
      · split at h
        · rename_i d H nx hr
          split at h
          · rename_i hok
            exact ⟨o, d, H, nx, ho, .inl ⟨hg, .inr ⟨hr, hok⟩⟩, runL_of l (k + 1) _ hl' h⟩
          · cases h
        · cases h
    · rename_i hg
      exact ⟨o, .tup [], st.H, st.nx, ho, .inr ⟨hg, rfl, rfl, rfl⟩, runL_of l (k + 1) _ hl' h⟩
    · cases h

def SealTo (P : Program) (st st' : St) : Prop := ∀ N s a w, Fr P N st s a w → ∃ s', Fr P N st' s' a w ∧ Step s w s' w
theorem SealTo.refl (st : St) : SealTo P st st := fun _ s _ w h => ⟨s, h, Step.refl s w⟩
theorem SealTo.trans {st st' st'' : St} (h : SealTo P st st') (h' : SealTo P st' st'') : SealTo P st st'' := fun N s a w hf => by
  obtain ⟨s1, h1, h2⟩ := h N s a w hf
  obtain ⟨s2, h3, h4⟩ := h' N s1 a w h1
  exact ⟨s2, h3, h2.trans h4⟩
def seqK (k : St → Prop) (Q : Exit → St → Prop) : Exit → St → Prop
  | .normal, st => k st
  | e, st => Q e st
def blkK (id : Nat) (Q : Exit → St → Prop) : Exit → St → Prop
  | .exit id', st => if id' = id then Q .normal st else Q (.exit id') st
  | e, st => Q e st
def loopK (I : Nat → St → Prop) (n : Nat) (Q : Exit → St → Prop) : Exit → St → Prop
  | .normal, st => ∃ m, m < n ∧ I m st
  | e, st => Q e st

def awp (P : Program) (own : List Nat) : Code → (Exit → St → Prop) → St → Prop
  | .skip, Q, st => Q .normal st
  | .region _ ops draw, Q, st => (draw = true → drawOK own ops = true ∧ awpD P own (dsts ops) ops.toList (Q .normal) st) ∧ (draw = false → awpL P own (dsts ops) ops.toList (Q .normal) st)
  | .seq a b, Q, st => awp P own a (seqK (fun st => ∃ st', SealTo P st st' ∧ awp P own b Q st') Q) st
  | .cond c x y, Q, st => ∃ t, st.ev c = .bool t ∧ (t = true → awp P own x Q st) ∧ (t = false → awp P own y Q st)
  | .block id c, Q, st => awp P own c (blkK id Q) st
  | .loop c, Q, st => ∃ I : Nat → St → Prop, (∃ n, I n st) ∧ ∀ n st', I n st' → awp P own c (loopK I n Q) st'
  | .exit id, Q, st => Q (.exit id) st
  | .ret, Q, st => Q .ret st
  | _, _, _ => False

def codeOK (N : Nat) : Code → Bool
  | .region _ ops _ => ops.toList.all (dstOK N)
  | .seq a b => codeOK N a && codeOK N b
  | .cond _ x y => codeOK N x && codeOK N y
  | .block _ c => codeOK N c
  | .loop c => codeOK N c
  | _ => true

theorem wp_loop_n {c : Code} {Q : Exit → Act → World → Prop} (I : Nat → Act → World → Prop) (round : ∀ n a w, I n a w → c.wp P (Exit.then (fun a' w' => ∃ m, m < n ∧ I m a' w') Q) a w) :
    ∀ n a w, I n a w → (Code.loop c).wp P Q a w := by
  intro n a w h0 b k cs
  have key : ∀ n a w, I n a w → ∃ e a' w', Q e a' w' ∧ Arrives P (lone (b.at a (.code c :: .inLoop c :: k)) cs w) b k cs e a' w' := by
    intro n
    induction n using Nat.strongRecOn with
    | _ n ih =>
      intro a w hI
      obtain ⟨e, a₁, w₁, hq, harr⟩ := round n a w hI b (.inLoop c :: k) cs
      cases e with
      | normal =>
        obtain ⟨m, hm, hI₁⟩ := hq
        obtain ⟨e₂, a₂, w₂, hq₂, harr₂⟩ := ih m hm a₁ w₁ hI₁
        exact ⟨e₂, a₂, w₂, hq₂, .of_steps (Steps.trans harr (.one step_inLoop)) harr₂⟩
      | exit id => exact ⟨_, a₁, w₁, hq, .pass (x := .inLoop c) rfl (fun _ _ => .inl (by simp)) harr⟩
      | goto l => exact ⟨_, a₁, w₁, hq, .pass (x := .inLoop c) rfl (fun _ _ => .inl (by simp)) harr⟩
      | ret => exact ⟨_, a₁, w₁, hq, .pass (x := .inLoop c) rfl (fun _ _ => .inl (by simp)) harr⟩
      | panic ch => exact ⟨_, a₁, w₁, hq, .pass (x := .inLoop c) rfl (fun _ _ => .inl (by simp)) harr⟩
      | outgrown => exact ⟨_, a₁, w₁, hq, .pass (x := .inLoop c) rfl (fun _ _ => .inl (by simp)) harr⟩
  obtain ⟨e, a', w', hq, harr⟩ := key n a w h0
  exact ⟨e, a', w', hq, .of_steps (.one step_loop) harr⟩

def lift (P : Program) (N : Nat) (s0 : RS) (w0 : World) (Q : Exit → St → Prop) : Exit → Act → World → Prop :=
  fun e a w => ∃ st s, Q e st ∧ Fr P N st s a w ∧ Step s0 w0 s w

theorem awp_sound {N : Nat} {own : List Nat} (hm : P.follows .mixedOrders = true) {s0 : RS} {w0 : World} : ∀ (c : Code) (Q : Exit → St → Prop) (st : St) (s : RS) (a : Act) (w : World), codeOK N c = true → awp P own c Q st →
    Fr P N st s a w → Step s0 w0 s w → c.wp P (lift P N s0 w0 Q) a w
  | .skip, Q, st, s, a, w, _, h, hf, hs => wp_skip ⟨st, s, h, hf, hs⟩
  | .region id ops draw, Q, st, s, a, w, hok, h, hf, hs => by
    simp only [codeOK] at hok
    have hdst : ∀ o ∈ ops.toList, dstOK N o = true := fun o ho => List.all_eq_true.1 hok o ho
    cases draw with
    | false =>
      refine wp_region_list (awpL_sound (Q := lift P N s0 w0 Q) ops.toList st s a w hdst (h.2 rfl) hf fun st' s' a' w' hK hf' hs' => ⟨st', s', hK, hf', hs.trans hs'⟩)
    | true =>
      obtain ⟨hdo, h⟩ := h.1 rfl
      obtain ⟨hds, hdr⟩ := drawn_state (w' := { w with drawn := w.drawn + 1 }) hf.heap rfl rfl rfl rfl
      have hf' : Fr P N st s a { w with drawn := w.drawn + 1 } := ⟨hf.H, hf.nx, hf.size, hf.defers, hf.tmps, hdr⟩
      refine wp_region_any hm (any_sound (Q := lift P N s0 w0 Q) hdo (fun i o ho => hdst o (by
        have := (Array.getElem?_eq_some_iff.1 ho)
        obtain ⟨h1, h2⟩ := this
        rw [← h2]; exact (Array.mem_toList_iff.2 (Array.getElem_mem h1)))) ops.size _ st s a _ ?_ (by simp) ?_ ?_ hf' fun st' s' a' w' hK hf2 hs2 => ⟨st', s', hK, hf2, hs.trans (hds.trans hs2)⟩)
      · have : (rem ops (Array.replicate ops.size false)).length ≤ (List.range ops.size).length := List.length_filter_le _ _
        simpa using this
      · intro k o ho hl
        have hlt := (Array.getElem?_eq_some_iff.1 ho).1
        simp [Array.getD_eq_getD_getElem?, hlt] at hl
      · have hrem : rem ops (Array.replicate ops.size false) = List.range ops.size := by
          refine List.filter_eq_self.2 fun k hk => ?_
          have hlt : k < ops.size := by simpa using hk
          simp [Array.getD_eq_getD_getElem?, hlt]
        rw [hrem, List.range_eq_range', ← Array.length_toList]
        exact runL_of ops.toList 0 st (by simp) h
  | .seq x y, Q, st, s, a, w, hok, h, hf, hs => by
    simp only [codeOK, Bool.and_eq_true] at hok
    refine wp_seq (wp_mono (awp_sound hm x _ st s a w hok.1 h hf hs) ?_)
    rintro e a' w' ⟨st', s', hq, hf', hs'⟩
    cases e with
    | normal =>
      obtain ⟨st2, hseal, hq⟩ := hq
      obtain ⟨s2, hf2, hs2⟩ := hseal N s' a' w' hf'
      exact awp_sound hm y Q st2 s2 a' w' hok.2 hq hf2 (hs'.trans hs2)
    | exit id => exact ⟨st', s', hq, hf', hs'⟩
    | goto l => exact ⟨st', s', hq, hf', hs'⟩
    | ret => exact ⟨st', s', hq, hf', hs'⟩
    | panic ch => exact ⟨st', s', hq, hf', hs'⟩
    | outgrown => exact ⟨st', s', hq, hf', hs'⟩
  | .cond c x y, Q, st, s, a, w, hok, h, hf, hs => by
    simp only [codeOK, Bool.and_eq_true] at hok
    obtain ⟨t, ht, h1, h2⟩ := h
    have hv := hf.ev c
    rw [ht] at hv
    simp only [rel] at hv
    exact wp_cond_split hv (fun e => awp_sound hm x Q st s a w hok.1 (h1 e) hf hs) (fun e => awp_sound hm y Q st s a w hok.2 (h2 e) hf hs)
  | .block id c, Q, st, s, a, w, hok, h, hf, hs => by
    refine wp_block (wp_mono (awp_sound hm c _ st s a w hok h hf hs) ?_)
    rintro e a' w' ⟨st', s', hq, hf', hs'⟩
    cases e with
    | exit id' =>
      simp only [blkK] at hq
      simp only [Exit.inBlock]
      split
      · rename_i he; rw [if_pos he] at hq; exact ⟨st', s', hq, hf', hs'⟩
      · rename_i he; rw [if_neg he] at hq; exact ⟨st', s', hq, hf', hs'⟩
    | normal => exact ⟨st', s', hq, hf', hs'⟩
    | goto l => exact ⟨st', s', hq, hf', hs'⟩
    | ret => exact ⟨st', s', hq, hf', hs'⟩
    | panic ch => exact ⟨st', s', hq, hf', hs'⟩
    | outgrown => exact ⟨st', s', hq, hf', hs'⟩
  | .loop c, Q, st, s, a, w, hok, h, hf, hs => by
    obtain ⟨I, ⟨n, hn⟩, hround⟩ := h
    refine wp_loop_n (fun n a w => ∃ st s, I n st ∧ Fr P N st s a w ∧ Step s0 w0 s w) ?_ n a w ⟨st, s, hn, hf, hs⟩
    rintro n a w ⟨st, s, hI, hf, hs⟩
    refine wp_mono (awp_sound hm c _ st s a w hok (hround n st hI) hf hs) ?_
    rintro e a' w' ⟨st', s', hq, hf', hs'⟩
    cases e with
    | normal =>
      obtain ⟨m, hm', hI'⟩ := hq
      exact ⟨m, hm', st', s', hI', hf', hs'⟩
    | exit id => exact ⟨st', s', hq, hf', hs'⟩
    | goto l => exact ⟨st', s', hq, hf', hs'⟩
    | ret => exact ⟨st', s', hq, hf', hs'⟩
    | panic ch => exact ⟨st', s', hq, hf', hs'⟩
    | outgrown => exact ⟨st', s', hq, hf', hs'⟩
  | .exit id, Q, st, s, a, w, _, h, hf, hs => wp_exit ⟨st, s, h, hf, hs⟩
  | .ret, Q, st, s, a, w, _, h, hf, hs => wp_ret ⟨st, s, h, hf, hs⟩
  | .rangeFunc .., _, _, _, _, _, _, h, _, _ => h.elim
  | .scope _, _, _, _, _, _, _, h, _, _ => h.elim
  | .label _, _, _, _, _, _, _, h, _, _ => h.elim
  | .goto _, _, _, _, _, _, _, h, _, _ => h.elim
  | .refuse _, _, _, _, _, _, _, h, _, _ => h.elim

def valR (P : Program) (st : St) : ResultVar → Option D
  | .tmp t => some (st.t t)
  | .cell a ty => loadD P st.H ty (st.t a)
def allR (P : Program) (st : St) : List ResultVar → Option (List D)
  | [] => some []
  | r :: rs => match valR P st r, allR P st rs with
    | some d, some ds => some (d :: ds)
    | _, _ => none
def resD (P : Program) (st : St) (rs : List ResultVar) : Option D :=
  match allR P st rs with
  | some [d] => some d
  | some ds => some (.tup ds)
  | none => none
def retQ (P : Program) (rs : List ResultVar) (K : D → HM → Nat → Prop) : Exit → St → Prop
  | .normal, st | .ret, st => ∃ r, resD P st rs = some r ∧ K r st.H st.nx
  | _, _ => False

theorem run_asAddr {s : RS} {w : World} {p d : D} {H : HM} {t : TypeId} {v u : Value} (hl : loadD P H t p = some d) (hp : rel s p v) (hr : (Instr.loadAt t v).run P w = .ok u w) : (do loadVar t (← asAddr v) : Sem Value).run P w = .ok u w := by
  have hv : ∃ a, v = .pointer (some a) := by
    unfold loadD at hl
    split at hl
    · simp only [rel] at hp; exact hp.2.1
    · simp only [rel] at hp; exact hp.2.1
    · simp only [rel] at hp; obtain ⟨a, u, h, _⟩ := hp; exact ⟨a, h⟩
    · cases hl
  obtain ⟨a, rfl⟩ := hv
  simpa [Instr.loadAt, Instr.sureAddr, asAddr] using hr

def resV (tmps : Array Value) : ResultVar → Sem Value
  | .tmp t => pure (tmps.getD t undef)
  | .cell a t => do loadVar t (← asAddr (tmps.getD a undef))
theorem results_eq (fn : Func) (tmps : Array Value) : results fn tmps = (do let vs ← fn.results.mapM (resV tmps); pure (if h : vs.size = 1 then vs[0] else .tuple vs)) := by
  unfold results
  congr 2
theorem results_list {N : Nat} {st : St} {s : RS} {a : Act} {w : World} (hf : Fr P N st s a w) : ∀ (rs : List ResultVar) (ds : List D), allR P st rs = some ds →
    ∃ vs, (rs.mapM (resV a.tmps)).run P w = .ok vs w ∧ relAll s ds vs
  | [], ds, h => by
    simp only [allR, Option.some.injEq] at h; subst h
    exact ⟨[], by simp, relAll_nil⟩
  | r :: rs, ds, h => by
    simp only [allR] at h
    split at h
    · rename_i d ds' hd hds
      cases h
      obtain ⟨vs, h1, h2⟩ := results_list hf rs ds' hds
      cases r with
      | tmp t =>
        simp only [valR, Option.some.injEq] at hd; subst hd
        refine ⟨a.tmps.getD t undef :: vs, ?_, relAll_cons (hf.tmps t) h2⟩
        simp only [List.mapM_cons, Sem.run_bind, resV, Sem.run_pure, Result.andThen_ok, h1]
      | cell b ty =>
        simp only [valR] at hd
        have hd' := hd
        rw [← hf.H] at hd
        obtain ⟨u, h3, h4⟩ := load_sound hf.heap hd (hf.tmps b)
        refine ⟨u :: vs, ?_, relAll_cons h4 h2⟩
        have h5 := run_asAddr hd (hf.tmps b) h3
        rw [List.mapM_cons, Sem.run_bind]
        simp only [resV]
        rw [h5, Result.andThen_ok, Sem.run_bind, h1, Result.andThen_ok, Sem.run_pure]
    · cases h

theorem results_sound {N : Nat} {st : St} {s : RS} {a : Act} {w : World} (hf : Fr P N st s a w) {fn : Func} {r : D} (h : resD P st fn.results.toList = some r) :
    ∃ v, (results fn a.tmps).run P w = .ok v w ∧ rel s r v := by
  unfold resD at h
  cases hall : allR P st fn.results.toList with
  | none => rw [hall] at h; cases h
  | some ds =>
    obtain ⟨vs, h1, h2⟩ := results_list hf _ _ hall
    have hrun : (results fn a.tmps).run P w = .ok (if h : vs.toArray.size = 1 then vs.toArray[0] else .tuple vs.toArray) w := by
      rw [results_eq, Array.mapM_eq_mapM_toList]
      simp only [Sem.run_bind, Sem.run_map, h1, Result.andThen_ok, Sem.run_pure]
    rw [hall] at h
    have hl := relAll_length h2
    match ds, h with
    | [], h =>
      simp only [Option.some.injEq] at h; subst h
      have : vs = [] := List.eq_nil_of_length_eq_zero (by simpa using hl)
      subst this
      exact ⟨_, hrun, by simp only [rel]; exact ⟨[], by simp, relAll_nil⟩⟩
    | [d], h =>
      simp only [Option.some.injEq] at h; subst h
      simp only [relAll] at h2
      obtain ⟨v, r, rfl, h3, rfl⟩ := h2
      exact ⟨_, hrun, by simpa using h3⟩
    | d :: e :: ds, h =>
      simp only [Option.some.injEq] at h; subst h
      refine ⟨_, hrun, ?_⟩
      have hne : ¬ vs.toArray.size = 1 := by simp [hl]
      rw [dif_neg hne]
      simp only [rel]
      exact ⟨vs, rfl, h2⟩

def st0 (ds : List D) (H : HM) (nx : Nat) : St := ⟨fun i => (ds[i]?).getD .any, H, nx⟩

theorem zqze {f : FuncId} {fn : Func} {c : Code} (own : List Nat) (hf : P.funcs[f]? = some fn) (hb : fn.body = some c) (hname : (fn.name == "runtime.NumGoroutine") = false) (hm : P.follows .mixedOrders = true)
    (hok : codeOK fn.ntmps c = true) {ds : List D} {H : HM} {nx : Nat} {K : D → HM → Nat → Prop} (hds : ds.length ≤ fn.ntmps) (h : awp P own c (retQ P fn.results.toList K) (st0 ds H nx)) : AC P f ds H nx K := by
  refine ⟨⟨fn, hf, hname, by rw [hb]; rfl⟩, fun s w vs hH hnx hRH hr => ?_⟩
  have hlen := relAll_length hr
  refine calls_of_wp hf hb ?_
  have hfr : Fr P fn.ntmps (st0 ds H nx) s { tmps := vs.toArray ++ Array.replicate (fn.ntmps - vs.toArray.size) undef, defers := [] } w := by
    refine ⟨hH, hnx, by simp; omega, rfl, fun i => ?_, hRH⟩
    simp only [st0]
    cases hd : ds[i]? with
    | none => simp [rel]
    | some d =>
      obtain ⟨v, hv, hrel⟩ := relAll_get hr i d hd
      have hi : i < vs.length := by
        rcases Nat.lt_or_ge i vs.length with h | h
        · exact h
        · rw [List.getElem?_eq_none h] at hv; cases hv
      simp only [Array.getD_eq_getD_getElem?, Option.getD_some]
      rw [Array.getElem?_append_left (by simpa using hi)]
      simp only [List.getElem?_toArray, hv, Option.getD_some]
      exact hrel
  refine wp_mono (awp_sound (s0 := s) (w0 := w) hm c _ _ s _ w hok h hfr (Step.refl s w)) ?_
  rintro e a' w' ⟨st', s', hq, hf', hs'⟩
  cases e with
  | normal =>
    obtain ⟨r, hr, hK⟩ := hq
    obtain ⟨v, h1, h2⟩ := results_sound hf' hr
    exact ⟨hf'.defers, v, h1, v, r, s', rfl, by rw [hf'.H, hf'.nx]; exact hK, hs', hf'.heap, h2⟩
  | ret =>
    obtain ⟨r, hr, hK⟩ := hq
    obtain ⟨v, h1, h2⟩ := results_sound hf' hr
    exact ⟨hf'.defers, v, h1, v, r, s', rfl, by rw [hf'.H, hf'.nx]; exact hK, hs', hf'.heap, h2⟩
  | exit id => exact hq.elim
  | goto l => exact hq.elim
  | panic ch => exact hq.elim
  | outgrown => exact hq.elim

end Go.Proofs.YtkhjpcmpljpmjaaGreatDoor.Abs
/-
  Contracts of functions that only compute: they take and give values that are only read. No condition.
-/
namespace Go.Proofs.YtkhjpcmpljpmjaaGreatDoor.Abs
open Go.RowKit
variable {P : Program}

def flatD : D → Bool
  | .int .. | .bool _ | .str _ | .nil | .nptr | .nfun | .nmp | .e0 | .any => true
  | .tup ds => flatL ds
  | .agg ds => flatL ds
  | _ => false
where flatL : List D → Bool
  | [] => true
  | d :: ds => flatD d && flatL ds

mutual
theorem rel_flat (s s' : RS) : ∀ (d : D) (v : Value), flatD d = true → rel s d v → rel s' d v
  | .any, _, _, _ => by simp [rel]
  | .int k n, v, _, hr => by simpa [rel] using hr
  | .bool b, v, _, hr => by simpa [rel] using hr
  | .str x, v, _, hr => by simpa [rel] using hr
  | .agg ds, v, hp, hr => by
    simp only [flatD] at hp
    simp only [rel] at hr ⊢
    obtain ⟨vs, h1, h2, h3⟩ := hr
    exact ⟨vs, h1, relAll_flat s s' ds vs hp h2, h3⟩
  | .tup ds, v, hp, hr => by
    simp only [flatD] at hp
    simp only [rel] at hr ⊢
    obtain ⟨vs, h1, h2⟩ := hr
    exact ⟨vs, h1, relAll_flat s s' ds vs hp h2⟩
  | .nil, v, _, hr => by simpa [rel] using hr
  | .nptr, v, _, hr => by simpa [rel] using hr
  | .nfun, v, _, hr => by simpa [rel] using hr
  | .nmp, v, _, hr => by simpa [rel] using hr
  | .e0, v, _, hr => by simpa [rel] using hr
  | .rsl .., _, hp, _ => by cases hp
  | .rptr _, _, hp, _ => by cases hp
  | .fn .., _, hp, _ => by cases hp
  | .osl .., _, hp, _ => by cases hp
  | .ptr .., _, hp, _ => by cases hp
  | .eptr .., _, hp, _ => by cases hp
  | .mp _, _, hp, _ => by cases hp
  | .it _, _, hp, _ => by cases hp
theorem relAll_flat (s s' : RS) : ∀ (ds : List D) (vs : List Value), flatD.flatL ds = true → relAll s ds vs → relAll s' ds vs
  | [], vs, _, hr => by simpa [relAll] using hr
  | d :: ds, vs, hp, hr => by
    simp only [flatD.flatL, Bool.and_eq_true] at hp
    simp only [relAll] at hr ⊢
    obtain ⟨v, r, h1, h2, h3⟩ := hr
    exact ⟨v, r, h1, rel_flat s s' d v hp.1 h2, relAll_flat s s' ds r hp.2 h3⟩
end

def optL (f : D → Option D) : List D → Option (List D)
  | [] => some []
  | d :: ds => match f d, optL f ds with
    | some d', some ds' => some (d' :: ds')
    | _, _ => none
def sealD (P : Program) (H : HM) : Nat → D → Option D
  | 0, _ => none
  | k + 1, d =>
    if pureD d = true then some d else
    match d with
    | .osl id n => match H id with
      | some (.row e n' cs) => if n = n' ∧ (isAggT P e = true ∨ (isAggT P e = false ∧ sizeT P e = 1)) then (optL (sealD P H k) cs).map fun cs' => .rsl false (sizeT P e) (groupD (isAggT P e) (sizeT P e) n cs') else none
      | _ => none
    | .agg ds => (optL (sealD P H k) ds).map .agg
    | .tup ds => (optL (sealD P H k) ds).map .tup
    | .rsl nn sz els => (optL (sealD P H k) els).map (.rsl nn sz)
    | .fn f cap => (optL (sealD P H k) cap).map (.fn f)
    | .ptr id off => match H id with
      | some (.box e cs) => if off = 0 ∧ (isAggT P e = true ∨ (isAggT P e = false ∧ cs.length = 1)) then (optL (sealD P H k) cs).map fun cs' => .rptr (if isAggT P e = true then .agg cs' else (cs'[0]?).getD .any) else none
      | _ => none
    | _ => none

noncomputable def RS.shut (s : RS) (w : World) : RS :=
  { s with m := fun a => @ite _ (owned s a.block) (Classical.propDecidable _) (w.cell? a) (s.m a), H := fun _ => none }

theorem shut_state {s : RS} {w : World} (h : RH P s w) : Step s w (s.shut w) w ∧ RH P (s.shut w) w := by
  have hmem : ∀ a v, s.m a = some v → (s.shut w).m a = some v := by
    intro a v hm
    have := (h.mem a v hm).2
    simp only [RS.shut]
    rw [if_neg this]; exact hm
  have hno : ∀ k, ¬ owned (s.shut w) k := by
    rintro k ⟨id, _, hH, _⟩
    exact hH rfl
  refine ⟨⟨rfl, rfl, rfl, Nat.le_refl _, Nat.le_refl _, hmem, fun a v hm => ?_, fun id _ => ?_, fun _ _ _ => rfl, fun k ho => (hno k ho).elim⟩, ?_, ?_, ?_, fun g => rel_pure hmem _ _ (pure_globD g) (h.glob g)⟩
  · simp only [RS.shut] at hm
    by_cases ho : owned s a.block
    · exact .inr (.inr ho)
    · rw [if_neg ho] at hm; exact .inl hm
  · simp only [RS.shut]
    unfold objLe
    cases s.H id with
    | none => rfl
    | some o => cases o <;> exact .inl rfl
  · intro a v hm
    refine ⟨?_, hno _⟩
    simp only [RS.shut] at hm
    by_cases ho : owned s a.block
    · rw [if_pos ho] at hm; exact hm
    · rw [if_neg ho] at hm; exact (h.mem a v hm).1
  · intro id o ho; cases ho
  · intro i j hi; exact (hi rfl).elim

theorem seal_sound {s : RS} {w : World} (h : RH P s w) : ∀ (k : Nat) (d : D) (v : Value) (r : D), rel s d v → sealD P s.H k d = some r → rel (s.shut w) r v := by
  obtain ⟨hstep, hRH⟩ := shut_state h
  intro k
  induction k with
  | zero => intro d v r _ hs; cases hs
  | succ k ih =>
    have ihL : ∀ (ds : List D) (vs : List Value) (rs : List D), relAll s ds vs → optL (sealD P s.H k) ds = some rs → relAll (s.shut w) rs vs := by
      intro ds
      induction ds with
      | nil => intro vs rs hr hs; simp only [optL, Option.some.injEq] at hs; subst hs; simpa [relAll] using hr
      | cons d ds ihd =>
        intro vs rs hr hs
        simp only [relAll] at hr
        obtain ⟨v, q, rfl, h1, h2⟩ := hr
        simp only [optL] at hs
        split at hs
        · rename_i d' ds' hd hds
          cases hs
          exact relAll_cons (ih d v d' h1 hd) (ihd q ds' h2 hds)
        · cases hs
    intro d v r hr hs
    simp only [sealD] at hs
    split at hs
    · rename_i hp
      cases hs
      exact rel_pure hstep.mem d v hp hr
    · split at hs
      · rename_i id n _
        split at hs
        · rename_i e n' cs hid
          split at hs
          · rename_i hc
            obtain ⟨rfl, hsz⟩ := hc
            simp only [Option.map_eq_some_iff] at hs
            obtain ⟨cs', hcs, rfl⟩ := hs
            obtain ⟨vs, ho, hrv, hov, hcl, hcell⟩ := row_cells h hid
            simp only [rel] at hr
            obtain ⟨hidn, _, hlive⟩ := hr
            have hv := (hlive _ _ _ hid).2 rfl
            subst hv
            have hr' := ihL cs vs cs' hrv hcs
            have hl' : cs'.length = n * sizeT P e := by rw [← relAll_length hr', relAll_length hrv]; exact hcl
            have hg := relAll_group hsz n cs' vs hl' hr' hov
            have hgl : (groupD (isAggT P e) (sizeT P e) n cs').length = n := by rw [← relAll_length hg]; exact groupV_length _ _ _ _
            simp only [rel]
            rcases ho.2 with ⟨hv0, hn0⟩ | ⟨g, cap, cur, hv0, _, hh, hnc, hcm, _⟩
            · subst hn0
              exact .inl ⟨trivial, by rw [groupD], hv0⟩
            · have hown : owned s g := ⟨id, hidn, by rw [hid]; simp, by rw [hv0]; rfl⟩
              refine .inr ⟨⟨g, 0, none⟩, cap, _, by rw [hgl]; exact hv0, by rw [hgl]; exact hnc, hcm, hg, fun i u hu => ?_⟩
              have hi : i < n := by
                rcases Nat.lt_or_ge i n with h9 | h9
                · exact h9
                · rw [List.getElem?_eq_none (by rw [groupV_length]; exact h9)] at hu; cases hu
              rw [groupV_get _ _ _ _ _ hi] at hu
              simp only [Option.some.injEq] at hu
              subst hu
              have hvl : vs.length = n * sizeT P e := by rw [relAll_length hrv]; exact hcl
              have hmul : i * sizeT P e + sizeT P e ≤ n * sizeT P e := by
                have := Nat.mul_le_mul_right (sizeT P e) (show i + 1 ≤ n by omega)
                rw [Nat.add_mul] at this; omega
              have cellm : ∀ j c, vs[j]? = some c → (s.shut w).m ⟨g, j, none⟩ = some c := by
                intro j c hj
                simp only [RS.shut]
                rw [if_pos hown]
                exact hcell g (by rw [hv0]; rfl) j c hj
              rcases hsz with hag | ⟨hag, h1⟩
              · rw [if_pos hag]
                refine ⟨by simp [Value.cells]; omega, fun j c hj => ?_⟩
                rw [addr_add0, addr_add0, Nat.zero_add]
                simp only [Value.cells, List.getElem?_take, List.getElem?_drop] at hj
                split at hj
                · exact cellm _ _ hj
                · cases hj
              · rw [if_neg (by rw [hag]; simp)]
                rw [h1] at hmul hvl ⊢
                simp only [Nat.mul_one] at hmul hvl ⊢
                have hget : vs[i]? = some vs[i] := List.getElem?_eq_getElem (by omega)
                have h1u : (vs[i]).oneCell' = true := hov _ (List.getElem_mem _)
                rw [hget]
                simp only [Option.getD_some]
                rw [cells_of_one h1u]
                refine ⟨rfl, fun j c hj => ?_⟩
                cases j with
                | zero =>
                  simp at hj; subst hj
                  rw [addr_add0, addr_add0, Nat.zero_add]
                  exact cellm _ _ hget
                | succ j => simp at hj
          · cases hs
        · cases hs
      · rename_i ds _
        simp only [Option.map_eq_some_iff] at hs
        obtain ⟨ds', hds, rfl⟩ := hs
        simp only [rel] at hr ⊢
        obtain ⟨vs, h1, h2, h3⟩ := hr
        exact ⟨vs, h1, ihL _ _ _ h2 hds, h3⟩
      · rename_i ds _
        simp only [Option.map_eq_some_iff] at hs
        obtain ⟨ds', hds, rfl⟩ := hs
        simp only [rel] at hr ⊢
        obtain ⟨vs, h1, h2⟩ := hr
        exact ⟨vs, h1, ihL _ _ _ h2 hds⟩
      · rename_i nn sz els _
        simp only [Option.map_eq_some_iff] at hs
        obtain ⟨ds', hds, rfl⟩ := hs
        simp only [rel] at hr ⊢
        rcases hr with ⟨h1, rfl, h3⟩ | ⟨a, cap, vs, h1, h2, h3, h4, h5⟩
        · simp only [optL, Option.some.injEq] at hds; subst hds
          exact .inl ⟨h1, rfl, h3⟩
        · have h6 := ihL _ _ _ h4 hds
          have h7 : ds'.length = els.length := by rw [← relAll_length h6, relAll_length h4]
          exact .inr ⟨a, cap, vs, by rw [h7]; exact h1, by rw [h7]; exact h2, h3, h6, fun i u hu => ⟨(h5 i u hu).1, (h5 i u hu).2.later hstep.mem⟩⟩
      · rename_i f cap _
        simp only [Option.map_eq_some_iff] at hs
        obtain ⟨ds', hds, rfl⟩ := hs
        simp only [rel] at hr ⊢
        obtain ⟨vs, h1, h2⟩ := hr
        exact ⟨vs, h1, ihL _ _ _ h2 hds⟩
      · rename_i id off _
        split at hs
        · rename_i e cs hid
          split at hs
          · rename_i hc
            obtain ⟨rfl, hag⟩ := hc
            simp only [Option.map_eq_some_iff] at hs
            obtain ⟨cs', hcs, rfl⟩ := hs
            obtain ⟨b, vs, hk, hb, hrv, hov, hcell⟩ := box_cells h hid
            simp only [rel] at hr
            obtain ⟨hidn, _, hlive⟩ := hr
            obtain ⟨b', h1, h2⟩ := hlive _ _ hid
            have hbb : b' = b := by rw [h1] at hk; cases hk; rfl
            subst hbb
            have hr' := ihL cs vs cs' hrv hcs
            have hown : owned s b' := ⟨id, hidn, by rw [hid]; simp, by rw [h1]; rfl⟩
            have cellm : ∀ j c, vs[j]? = some c → (s.shut w).m ⟨b', j, none⟩ = some c := by
              intro j c hj
              simp only [RS.shut]
              rw [if_pos hown]
              exact hcell j c hj
            simp only [rel]
            rcases hag with hag | ⟨hag, hl1⟩
            · rw [if_pos hag]
              refine ⟨⟨b', 0, none⟩, .agg vs.toArray, h2, by simp only [rel]; exact ⟨vs, rfl, hr', hov⟩, fun j c hj => ?_⟩
              rw [addr_add0, Nat.zero_add]
              exact cellm j c (by simpa [Value.cells] using hj)
            · rw [if_neg (by rw [hag]; simp)]
              have hl2 : vs.length = 1 := by rw [relAll_length hrv]; exact hl1
              obtain ⟨u, rfl⟩ := List.length_eq_one_iff.1 hl2
              have hl3 : cs'.length = 1 := by rw [← relAll_length hr']; rfl
              obtain ⟨c0, rfl⟩ := List.length_eq_one_iff.1 hl3
              simp only [relAll] at hr'
              obtain ⟨u', q, hu, hcr, _⟩ := hr'
              cases hu
              have h1u : u.oneCell' = true := hov _ (by simp)
              refine ⟨⟨b', 0, none⟩, u, h2, hcr, fun j c hj => ?_⟩
              rw [cells_of_one h1u] at hj
              rw [addr_add0, Nat.zero_add]
              exact cellm j c (by simpa using hj)
          · cases hs
        · cases hs
      · cases hs

def noH : HM := fun _ => none
def PC (P : Program) (f : FuncId) (ds : List D) (r : D) : Prop :=
  pureD.pureL ds = true ∧ pureD r = true ∧ AC P f ds noH 0 fun r' _ _ => r' = r

def Le (d d' : D) : Prop := ∀ s v, rel s d v → rel s d' v
theorem Le.refl (d : D) : Le d d := fun _ _ h => h
theorem Le.nil (sz : Nat) : Le .nil (.rsl false sz []) := fun s v h => by simp only [rel] at h ⊢; exact .inl ⟨trivial, trivial, h⟩
theorem Le.rsl {nn : Bool} {sz : Nat} {els : List D} : Le (.rsl nn sz els) (.rsl false sz els) := fun s v h => by
  simp only [rel] at h ⊢
  rcases h with ⟨_, h1, h2⟩ | h
  · exact .inl ⟨trivial, h1, h2⟩
  · exact .inr h
def LeL : List D → List D → Prop
  | [], [] => True
  | d :: ds, e :: es => Le d e ∧ LeL ds es
  | _, _ => False
theorem relAll_le {s : RS} : ∀ {ds es : List D} {vs : List Value}, LeL ds es → relAll s ds vs → relAll s es vs
  | [], [], _, _, h => h
  | [], _ :: _, _, h, _ => h.elim
  | _ :: _, [], _, h, _ => h.elim
  | d :: ds, e :: es, vs, h, hr => by
    simp only [relAll] at hr ⊢
    obtain ⟨v, r, h1, h2, h3⟩ := hr
    exact ⟨v, r, h1, h.1 _ _ h2, relAll_le h.2 h3⟩
theorem Le.tup {ds es : List D} (h : LeL ds es) : Le (.tup ds) (.tup es) := fun s v hr => by
  simp only [rel] at hr ⊢
  obtain ⟨vs, h1, h2⟩ := hr
  exact ⟨vs, h1, relAll_le h h2⟩
theorem Le.agg {ds es : List D} (h : LeL ds es) : Le (.agg ds) (.agg es) := fun s v hr => by
  simp only [rel] at hr ⊢
  obtain ⟨vs, h1, h2, h3⟩ := hr
  exact ⟨vs, h1, relAll_le h h2, h3⟩

def Fin (P : Program) (k : Nat) (r : D) : D → HM → Nat → Prop := fun r' H _ => ∃ d, sealD P H k r' = some d ∧ Le d r

theorem AC.shut {f : FuncId} {ds : List D} {H : HM} {nx : Nat} {r : D} {k : Nat} (h : AC P f ds H nx (Fin P k r)) : AC P f ds H nx fun r' _ _ => r' = r := by
  refine ⟨h.1, fun s w vs h1 h2 h3 h4 => (h.2 s w vs h1 h2 h3 h4).mono fun e w' ⟨v, r', s', he, ⟨d, hs, hle⟩, hstep, hRH, hr⟩ => ?_⟩
  obtain ⟨g1, g2⟩ := shut_state hRH
  exact ⟨v, r, s'.shut w', he, rfl, hstep.trans g1, g2, hle _ _ (seal_sound hRH k r' v d hr hs)⟩

theorem zqzd {f : FuncId} {ds : List D} {r : D} (k : Nat) (hds : pureD.pureL ds = true) (hr : pureD r = true) (h : AC P f ds noH 0 (Fin P k r)) : PC P f ds r :=
  ⟨hds, hr, h.shut⟩

theorem PC_lift {f : FuncId} {ds : List D} {r : D} (h : PC P f ds r) {s s1 : RS} {w : World} {vs : List Value} (hRH : RH P s w) (hRH1 : RH P s1 w) (hr1 : relAll s1 ds vs)
    (hsub : (∀ a v, s1.m a = some v → s.m a = some v) ∨ flatD r = true) :
    Calls P f vs.toArray w fun e w' => ∃ v r' s', e = .returned v ∧ (r' = r ∧ s'.H = s.H ∧ s'.nx = s.nx) ∧ Step s w s' w' ∧ RH P s' w' ∧ rel s' r' v := by
  let s2 : RS := { s1 with H := noH, nx := 0 }
  have hno : ∀ k, ¬ owned s2 k := by rintro k ⟨id, hid, _⟩; exact absurd hid (Nat.not_lt_zero _)
  have hRH2 : RH P s2 w := ⟨fun a v hmm => ⟨(hRH1.mem a v hmm).1, hno _⟩, fun id o ho => (by cases ho), fun i j hi => (hi rfl).elim, fun g => rel_pure (s := s1) (s' := s2) (fun a v hm => hm) _ _ (pure_globD g) (hRH1.glob g)⟩
  have hr2 : relAll s2 ds vs := relAll_pure (s := s1) (s' := s2) (fun a v hm => hm) ds vs h.1 hr1
  refine (h.2.2.2 s2 w vs rfl rfl hRH2 hr2).mono fun e w' ⟨v, r', s3, he, hrr, hstep, hRH3, hrel⟩ => ?_
  subst hrr
  have hold : ∀ k, k < w.heap.size → w'.heap[k]? = w.heap[k]? := fun k hk => hstep.keep k hk (hno k)
  have hgrew : Grew w w' := ⟨hstep.os, hstep.tape, hstep.output, hstep.size, hold⟩
  obtain ⟨g1, g2⟩ := new_mem hRH hgrew
  refine ⟨v, r', s.grow w w', he, ⟨rfl, rfl, rfl⟩, g1, g2, ?_⟩
  rcases hsub with hsub | hflat
  · refine rel_pure (fun a u hm3 => ?_) r' v h.2.1 hrel
    simp only [RS.grow]
    rcases hstep.new a u hm3 with h1 | h1 | h1
    · have hlt := hRH1.mem_lt h1
      rw [if_pos hlt]; exact hsub a u h1
    · rw [if_neg (by omega)]; exact (hRH3.mem a u hm3).1
    · exact (hno _ h1).elim
  · exact rel_flat _ _ r' v hflat hrel

theorem PC.rc {f : FuncId} {ds : List D} {r : D} (h : PC P f ds r) (H : HM) (nx : Nat) : RC P f ds H nx r := by
  refine ⟨h.2.2.1, fun s w vs hH hnx hRH hr => ?_⟩
  subst hH; subst hnx
  let s1 : RS := { s with H := noH, nx := 0 }
  have hno : ∀ k, ¬ owned s1 k := by rintro k ⟨id, hid, _⟩; exact absurd hid (Nat.not_lt_zero _)
  exact PC_lift h (s1 := s1) hRH ⟨fun a v hmm => ⟨(hRH.mem a v hmm).1, hno _⟩, fun id o ho => (by cases ho), fun i j hi => (hi rfl).elim, fun g => rel_pure (s := s) (s' := s1) (fun a v hm => hm) _ _ (pure_globD g) (hRH.glob g)⟩ (relAll_pure (s := s) (s' := s1) (fun a v hm => hm) ds vs h.1 hr) (.inl fun a v hm => hm)

theorem sealL_sound {s : RS} {w : World} (h : RH P s w) (k : Nat) : ∀ (ds : List D) (vs : List Value) (rs : List D), relAll s ds vs → optL (sealD P s.H k) ds = some rs → relAll (s.shut w) rs vs
  | [], vs, rs, hr, hs => by simp only [optL, Option.some.injEq] at hs; subst hs; simpa [relAll] using hr
  | d :: ds, vs, rs, hr, hs => by
    simp only [relAll] at hr
    obtain ⟨v, q, rfl, h1, h2⟩ := hr
    simp only [optL] at hs
    split at hs
    · rename_i d' ds' hd hds
      cases hs
      exact relAll_cons (seal_sound h k d v d' h1 hd) (sealL_sound h k ds q ds' h2 hds)
    · cases hs
theorem PC.borrow {f : FuncId} {ds ds' : List D} {r : D} (h : PC P f ds' r) (hf : flatD r = true) (k : Nat) {H : HM} {nx : Nat} (hs : optL (sealD P H k) ds = some ds') : RC P f ds H nx r := by
  refine ⟨h.2.2.1, fun s w vs hH hnx hRH hr => ?_⟩
  subst hH; subst hnx
  obtain ⟨g1, g2⟩ := shut_state hRH
  exact PC_lift h (s1 := s.shut w) hRH g2 (sealL_sound hRH k ds vs ds' hr hs) (.inr hf)
theorem PC.ac {f : FuncId} {ds : List D} {r : D} (h : PC P f ds r) {H : HM} {nx : Nat} {K : D → HM → Nat → Prop} (hk : K r H nx) : AC P f ds H nx K :=
  AC.mono (h.rc H nx) fun _ _ _ ⟨h1, h2, h3⟩ => by subst h1; subst h2; subst h3; exact hk
theorem RC.ac {f : FuncId} {ds : List D} {r : D} {H : HM} {nx : Nat} (h : RC P f ds H nx r) {K : D → HM → Nat → Prop} (hk : K r H nx) : AC P f ds H nx K :=
  AC.mono h fun _ _ _ ⟨h1, h2, h3⟩ => by subst h1; subst h2; subst h3; exact hk

end Go.Proofs.YtkhjpcmpljpmjaaGreatDoor.Abs
/-
  The rules by which a walk over abstract states is stepped. No condition.
-/
namespace Go.Proofs.YtkhjpcmpljpmjaaGreatDoor.Abs
open Go.RowKit
variable {P : Program} {own : List Nat} {Q : Exit → St → Prop} {st : St}

theorem awp_seq {a b : Code} (h : ∀ K : St → Prop, (∀ st, awp P own b Q st → K st) → awp P own a (seqK K Q) st) : awp P own (.seq a b) Q st := h _ fun st h => ⟨st, SealTo.refl st, h⟩
theorem awp_reg {id : Nat} {l : List Oper} (h : awpL P own (l.map (·.dst)) l (Q .normal) st) : awp P own (.region id l.toArray false) Q st := ⟨fun h => (by cases h), fun _ => h⟩
theorem awp_draw {id : Nat} {l : List Oper} (h0 : drawOK own l.toArray = true) (h : awpD P own (l.map (·.dst)) l (Q .normal) st) : awp P own (.region id l.toArray true) Q st := ⟨fun _ => ⟨h0, h⟩, fun h => (by cases h)⟩
theorem zqh {id : Nat} {l : List Oper} {b : Code} (h : ∀ K : St → Prop, (∀ st, awp P own b Q st → K st) → awpL P own (l.map (·.dst)) l K st) : awp P own (.seq (.region id l.toArray false) b) Q st :=
  awp_seq fun K hK => awp_reg (h K hK)
theorem zqe {id : Nat} {l : List Oper} {b : Code} (h0 : drawOK own l.toArray = true) (h : ∀ K : St → Prop, (∀ st, awp P own b Q st → K st) → awpD P own (l.map (·.dst)) l K st) : awp P own (.seq (.region id l.toArray true) b) Q st :=
  awp_seq fun K hK => awp_draw h0 (h K hK)
theorem seqK_mono {K K' : St → Prop} {Q Q' : Exit → St → Prop} (hk : ∀ st, K st → K' st) (h : ∀ e st, Q e st → Q' e st) : ∀ e st, seqK K Q e st → seqK K' Q' e st := by
  intro e st hq
  cases e with
  | normal => exact hk st hq
  | _ => exact h _ st hq
theorem awpL_mono {ops : List (Option Nat)} {K K' : St → Prop} (h : ∀ st, K st → K' st) : ∀ (l : List Oper) (st : St), awpL P own ops l K st → awpL P own ops l K' st
  | [], st, hq => h st hq
  | o :: l, st, hq => by
    simp only [awpL] at hq ⊢
    split
    · rename_i hg
      rw [hg] at hq
      simp only at hq
      unfold opW at hq ⊢
      split
      · rename_i hop
        simp only [hop] at hq
        split
        · rename_i hf
          rw [hf] at hq
          exact AC.mono hq fun r H nx hk => awpL_mono h l _ hk
        · rename_i hf
          split at hq
          · rename_i hf2; exact (hf _ _ hf2).elim
          · exact hq
      · rename_i hop
        split at hq
        · rename_i hop2; exact (hop _ _ _ hop2).elim
        · split at hq
          · exact awpL_mono h l _ hq
          · exact hq
    · rename_i hg
      rw [hg] at hq
      exact awpL_mono h l _ hq
    · rename_i hg
      rw [hg] at hq
      exact hq
theorem awpD_mono {ops : List (Option Nat)} {K K' : St → Prop} (h : ∀ st, K st → K' st) : ∀ (l : List Oper) (st : St), awpD P own ops l K st → awpD P own ops l K' st
  | [], st, hq => h st hq
  | o :: l, st, hq => by
    simp only [awpD] at hq ⊢
    split
    · rename_i hg
      rw [hg] at hq
      simp only at hq
      unfold opD at hq ⊢
      split
      · rename_i hop
        simp only [hop] at hq
        split
        · rename_i hf
          rw [hf] at hq
          rcases hq with ⟨h0, r, h1, h2⟩ | ⟨h0, r, h1, h2⟩ | ⟨h0, hm, d, H, nx, h1, h3, h2⟩
          · exact .inl ⟨h0, r, h1, awpD_mono h l _ h2⟩
          · exact .inr (.inl ⟨h0, r, h1, awpD_mono h l _ h2⟩)
          · exact .inr (.inr ⟨h0, hm, d, H, nx, h1, h3, awpD_mono h l _ h2⟩)
        · rename_i hf
          split at hq
          · rename_i hf2; exact (hf _ _ hf2).elim
          · exact hq
      · rename_i hop
        split at hq
        · rename_i hop2; exact (hop _ _ _ hop2).elim
        · split at hq
          · split at hq
            · rename_i hok
              rw [if_pos hok]
              exact awpD_mono h l _ hq
            · cases hq
          · exact hq
    · rename_i hg
      rw [hg] at hq
      exact awpD_mono h l _ hq
    · rename_i hg
      rw [hg] at hq
      exact hq
theorem awp_mono : ∀ (c : Code) (Q1 Q2 : Exit → St → Prop) (st : St), (∀ e st, Q1 e st → Q2 e st) → awp P own c Q1 st → awp P own c Q2 st
  | .skip, _, _, st, hq, h => hq _ st h
  | .region _ _ _, _, _, st, hq, h => ⟨fun hd => ⟨(h.1 hd).1, awpD_mono (hq _) _ st (h.1 hd).2⟩, fun hd => awpL_mono (hq _) _ st (h.2 hd)⟩
  | .seq a b, Q1, Q2, st, hq, h => awp_mono a _ _ st (seqK_mono (fun _ ⟨st', hs, h⟩ => ⟨st', hs, awp_mono b Q1 Q2 st' hq h⟩) hq) h
  | .cond _ x y, Q1, Q2, st, hq, h => by
    obtain ⟨t, h0, h1, h2⟩ := h
    exact ⟨t, h0, fun e => awp_mono x Q1 Q2 st hq (h1 e), fun e => awp_mono y Q1 Q2 st hq (h2 e)⟩
  | .block id c, Q1, Q2, st, hq, h => by
    refine awp_mono c _ _ st (fun e st hb => ?_) h
    cases e with
    | exit id' =>
      simp only [blkK] at hb ⊢
      split
      · rename_i he; rw [if_pos he] at hb; exact hq _ _ hb
      · rename_i he; rw [if_neg he] at hb; exact hq _ _ hb
    | _ => exact hq _ _ hb
  | .loop c, Q1, Q2, st, hq, h => by
    obtain ⟨I, h0, h1⟩ := h
    refine ⟨I, h0, fun n st' hI => awp_mono c _ _ st' (fun e st hb => ?_) (h1 n st' hI)⟩
    cases e with
    | normal => exact hb
    | _ => exact hq _ _ hb
  | .exit _, _, _, st, hq, h => hq _ st h
  | .ret, _, _, st, hq, h => hq _ st h
  | .rangeFunc .., _, _, _, _, h => h.elim
  | .scope _, _, _, _, _, h => h.elim
  | .label _, _, _, _, _, h => h.elim
  | .goto _, _, _, _, _, h => h.elim
  | .refuse _, _, _, _, _, h => h.elim
theorem zqj {a b c : Code} (h : awp P own (.seq a (.seq b c)) Q st) : awp P own (.seq (.seq a b) c) Q st :=
  awp_mono a _ _ st (fun e st h => by cases e <;> exact h) h
theorem zqm {c : Operand} {x y : Code} (t : Bool) (ht : st.ev c = .bool t) (h1 : t = true → awp P own x Q st) (h2 : t = false → awp P own y Q st) : awp P own (.cond c x y) Q st := ⟨t, ht, h1, h2⟩
theorem zqi {id : Nat} {c : Code} (h : awp P own c (blkK id Q) st) : awp P own (.block id c) Q st := h
theorem zqn (h : Q .ret st) : awp P own .ret Q st := h
theorem zqk (h : Q .normal st) : awp P own .skip Q st := h
theorem zql {id : Nat} (h : Q (.exit id) st) : awp P own (.exit id) Q st := h
end Go.Proofs.YtkhjpcmpljpmjaaGreatDoor.Abs
namespace Go.Proofs.YtkhjpcmpljpmjaaGreatDoor.Abs
theorem buildD_eq {P : Program} {t : TypeId} {parts : List (Nat × D)} : buildD P t parts = match zeroT P t with
    | some zs => if fieldsOK P t = true then (fillD (fun i => (fieldT P t i).map fun (o, ft) => (o, sizeT P ft)) zs parts).map .agg else
        match arrT P t with
        | some (_, e) => if sizeT P e ≠ 0 then (fillD (fun i => some (i * sizeT P e, sizeT P e)) zs parts).map .agg else none
        | none => none
    | none => none := by
  unfold buildD
  cases zeroT P t with
  | none => rfl
  | some zs =>
    unfold fieldsOK arrT
    cases hu : P.underlying t with
    | none => rfl
    | some d => cases d <;> simp
attribute [go_sem] buildD_eq
attribute [go_sem] ofVal ofCell cellsD takeD fitsD loadD storeD splice fieldAddrD indexAddrD indexD boundD sliceD fillD cellsAll cmpInt binD isNilD unD lenD maxD minD pickD sourceD appendD
attribute [go_sem] List.getElem?_cons_zero List.getElem?_cons_succ Option.getD_some Option.map_some Option.map_none Option.bind_some Option.bind_none if_true if_false List.length_map List.map_cons List.map_nil List.any_cons List.any_nil Bool.or_false Bool.false_eq_true and_self true_and and_true
end Go.Proofs.YtkhjpcmpljpmjaaGreatDoor.Abs
/-
  The evaluation of regions, an operation at a time, as rewrite rules. No condition.
-/
namespace Go.Proofs.YtkhjpcmpljpmjaaGreatDoor.Abs
open Go.RowKit

def stepO (o : Option D) (f : List Oper → (St → Prop) → St → Prop) (rest : List Oper) (K : St → Prop) (st : St) (dst : Option Nat) : Prop := match o with | some d => f rest K (st.put dst d) | none => False
def stepB (e : TypeId) (o : Option (List D)) (f : List Oper → (St → Prop) → St → Prop) (rest : List Oper) (K : St → Prop) (st : St) (dst : Option Nat) : Prop :=
  match o with | some cs => f rest K ((st.withH (updH st.H st.nx (some (.box e cs))) (st.nx + 1)).put dst (.ptr st.nx 0)) | none => False
def stepH (o : Option HM) (f : List Oper → (St → Prop) → St → Prop) (rest : List Oper) (K : St → Prop) (st : St) (dst : Option Nat) : Prop := match o with | some H => f rest K ((st.withH H st.nx).put dst .any) | none => False
def step3 (o : Option (D × HM × Nat)) (f : List Oper → (St → Prop) → St → Prop) (rest : List Oper) (K : St → Prop) (st : St) (dst : Option Nat) : Prop := match o with | some (d, H, nx) => f rest K ((st.withH H nx).put dst d) | none => False
def stepK (b : Bool) (p : Prop) : Prop := if b = true then p else False
def okA (own : List Nat) (dst : Option Nat) (st : St) : Bool := if isMark 7000000 own dst = true then decide (boundB own ≤ st.nx) else true
def okS (own : List Nat) (dst : Option Nat) (st : St) : Bool := if isMark 7000000 own dst = true ∧ isOwn own dst = true then decide (boundB own ≤ st.nx) else true
def okP (own : List Nat) (dst : Option Nat) (st : St) (x : D) : Bool := if isMark 7000000 own dst = true then (match x with | .osl id _ => decide (boundB own ≤ id ∧ boundB own ≤ st.nx) | _ => decide (boundB own ≤ st.nx)) else true
theorem stepK_not (b : Bool) : stepK b False = False := by unfold stepK; split <;> rfl
def stepG (g : Option Bool) (f : List Oper → (St → Prop) → St → Prop) (o : Oper) (rest : List Oper) (K : St → Prop) (st : St) : Prop := match g with | some true => f (o :: rest) K st | some false => f rest K (st.put o.dst (.tup [])) | none => False
section
variable {f : List Oper → (St → Prop) → St → Prop} {rest : List Oper} {K : St → Prop} {st : St} {dst : Option Nat}
@[go_sem] theorem stepK_true (p : Prop) : stepK true p = p := by unfold stepK; simp
@[go_sem] theorem stepO_some (d : D) : stepO (some d) f rest K st dst = f rest K (st.put dst d) := rfl
@[go_sem] theorem stepB_some (e : TypeId) (cs : List D) : stepB e (some cs) f rest K st dst = f rest K ((st.withH (updH st.H st.nx (some (.box e cs))) (st.nx + 1)).put dst (.ptr st.nx 0)) := rfl
@[go_sem] theorem stepH_some (H : HM) : stepH (some H) f rest K st dst = f rest K ((st.withH H st.nx).put dst .any) := rfl
@[go_sem] theorem step3_some (d : D) (H : HM) (nx : Nat) : step3 (some (d, H, nx)) f rest K st dst = f rest K ((st.withH H nx).put dst d) := rfl
@[go_sem] theorem stepG_true (o : Oper) : stepG (some true) f o rest K st = f (o :: rest) K st := rfl
@[go_sem] theorem stepG_false {op : Op} {ty : TypeId} {pos : String} {aft : Array Edge} {g : Option (Nat × Bool)} : stepG (some false) f ⟨dst, op, ty, pos, aft, g⟩ rest K st = f rest K (st.put dst (.tup [])) := rfl
end

def assignD (P : Program) (own : List Nat) (dst : Option Nat) (ty : TypeId) (st : St) (x : D) : Option (D × HM × Nat) :=
  match x with
  | .nil => if isOwn own dst = true then (elemT P ty).map fun e => (.osl st.nx 0, updH st.H st.nx (some (.row e 0 [])), st.nx + 1) else some (.nil, st.H, st.nx)
  | d => some (d, st.H, st.nx)
def buildSliceD (P : Program) (own : List Nat) (dst : Option Nat) (st : St) (t : TypeId) (len : Nat) (is : List Nat) (els : List D) : Option (D × HM × Nat) :=
  match elemT P t with
  | some e =>
    if sizeT P e ≠ 0 ∧ rangeOK is 0 len = true ∧ len * sizeT P e ≤ 16777216 ∧ (len = 0 ∨ hasZero P e = true) then
      (cellsAll (sizeT P e) els).bind fun cs =>
        if isOwn own dst = true then some (.osl st.nx len, updH st.H st.nx (some (.row e len cs)), st.nx + 1)
        else if isMark 1000000 own dst = true ∧ len = 0 then some (.e0, st.H, st.nx)
        else some (.rsl true (sizeT P e) els, st.H, st.nx)
    else none
  | none => none
def appendG (P : Program) (own : List Nat) (dst : Option Nat) (st : St) (t : TypeId) (x y : D) : Option (D × HM × Nat) :=
  if isMark 1000000 own dst = true then (appendE P st.H t x y).map fun d => (d, st.H, st.nx)
  else if isMark 2000000 own dst = true then (appendD P st.H st.nx t x y).bind (shutR P)
  else appendD P st.H st.nx t x y
def makeSliceD (P : Program) (st : St) (t : TypeId) (l c : D) : Option (D × HM × Nat) :=
  match elemT P t, l, c with
  | some e, .int _ l, .int _ c => if l = c ∧ 0 ≤ l ∧ l.toNat * bytesT P e ≤ 140737488355328 ∧ l ≤ 9223372036854775807 ∧ 0 < sizeT P e then
      (zeroT P e).map fun zs => (.osl st.nx l.toNat, updH st.H st.nx (some (.row e l.toNat (List.replicate l.toNat zs).flatten)), st.nx + 1) else none
  | _, _, _ => none
def fieldD (P : Program) (t : TypeId) (x : D) (f : Nat) : Option D :=
  match fieldT P t f, x with
  | some (o, ft), .agg ds => takeD P ft ds o
  | _, _ => none
def extractD (x : D) (i : Nat) : Option D := match x with | .tup ds => ds[i]? | _ => none
def nilCheckD (x : D) : Option D := match x with | .rptr d => some (.rptr d) | .ptr id off => some (.ptr id off) | _ => none
attribute [go_sem] isMark loadG loadB hmG boundB cutB okA okS okP okT slotOf touchOf appendG appendE shutR oneOK pureD pureD.pureL
@[go_sem] theorem groupD_zero (ag : Bool) (sz : Nat) (cs : List D) : groupD ag sz 0 cs = [] := rfl
@[go_sem] theorem groupD_cons (ag : Bool) (sz n : Nat) (c : D) (cs : List D) : groupD ag sz (n + 1) (c :: cs) = (if ag = true then .agg ((c :: cs).take sz) else c) :: groupD ag sz n ((c :: cs).drop sz) := rfl
attribute [go_sem] lookupD updateD esD lookR updR setVal eqK findD
attribute [go_sem] isOwn rangeOK assignD buildSliceD convD convS rangeD nextD unbyte u8T makeSliceD fieldD extractD nilCheckD

@[go_sem] theorem ev_tmp (st : St) (i : Nat) : st.ev (.tmp i) = st.t i := rfl
@[go_sem] theorem ev_const (st : St) (v : Value) : st.ev (.const v) = ofVal v := rfl
@[go_sem] theorem ev_func (st : St) (f : FuncId) : st.ev (.func f) = .fn f [] := rfl
@[go_sem] theorem ev_global (st : St) (g : Nat) : st.ev (.global g) = globD g := rfl
attribute [go_sem] globD
@[go_sem] theorem put_none (st : St) (d : D) : st.put none d = st := rfl
@[go_sem] theorem t_put (st : St) (i j : Nat) (d : D) : (st.put (some i) d).t j = cond (j == i) d (st.t j) := by
  simp only [St.put, updT]
  by_cases h : j = i
  · subst h; simp
  · have : (j == i) = false := by simpa using h
    rw [if_neg h, this]; rfl
attribute [go_sem] id_eq List.map_cons List.map_nil
@[go_sem] theorem H_put (st : St) (dst : Option Nat) (d : D) : (st.put dst d).H = st.H := put_H st dst d
@[go_sem] theorem nx_put (st : St) (dst : Option Nat) (d : D) : (st.put dst d).nx = st.nx := put_nx st dst d
@[go_sem] theorem t_withH (st : St) (H : HM) (nx j : Nat) : (st.withH H nx).t j = st.t j := rfl
@[go_sem] theorem H_withH (st : St) (H : HM) (nx : Nat) : (st.withH H nx).H = H := rfl
@[go_sem] theorem nx_withH (st : St) (H : HM) (nx : Nat) : (st.withH H nx).nx = nx := rfl
@[go_sem] theorem withH_id (st : St) : st.withH st.H st.nx = st := rfl
@[go_sem] theorem t_st0 (ds : List D) (H : HM) (nx i : Nat) : (st0 ds H nx).t i = (ds[i]?).getD .any := rfl
@[go_sem] theorem H_st0 (ds : List D) (H : HM) (nx : Nat) : (st0 ds H nx).H = H := rfl
@[go_sem] theorem nx_st0 (ds : List D) (H : HM) (nx : Nat) : (st0 ds H nx).nx = nx := rfl
@[go_sem] theorem updH_at (H : HM) (i j : Nat) (o : Option HObj) : updH H i o j = cond (j == i) o (H j) := by
  unfold updH
  by_cases h : j = i
  · subst h; simp
  · have : (j == i) = false := by simpa using h
    rw [if_neg h, this]; rfl
attribute [go_sem] cond_true cond_false
@[go_sem] theorem beq_tt (b : Bool) : (b == true) = b := by cases b <;> rfl
@[go_sem] theorem beq_ff (b : Bool) : (b == false) = !b := by cases b <;> rfl

section
variable {P : Program} {own : List Nat} {ops : List (Option Nat)} {rest : List Oper} {K : St → Prop} {st : St} {dst : Option Nat} {ty : TypeId} {pos : String} {aft : Array Edge}
@[go_sem] theorem awpL_nil : awpL P own ops [] K st = K st := rfl
@[go_sem] theorem awpD_nil : awpD P own ops [] K st = K st := rfl
def guardG (ops : List (Option Nat)) (st : St) (j : Nat) (want : Bool) : Option Bool :=
  match (ops[j]?).bind id with
  | some i => match st.t i with
    | .bool b => some (b == want)
    | .tup _ => some false
    | _ => none
  | none => none
attribute [go_sem] guardG
@[go_sem] theorem awpL_guard {op : Op} {j : Nat} {want : Bool} : awpL P own ops (⟨dst, op, ty, pos, aft, some (j, want)⟩ :: rest) K st = stepG (guardG ops st j want) (awpL P own ops) ⟨dst, op, ty, pos, aft, none⟩ rest K st := by
  have h : guardS ops st ⟨dst, op, ty, pos, aft, some (j, want)⟩ = guardG ops st j want := rfl
  have h2 : guardS ops st ⟨dst, op, ty, pos, aft, none⟩ = some true := rfl
  simp only [awpL, h, h2]
  cases guardG ops st j want with
  | none => rfl
  | some g => cases g <;> rfl
@[go_sem] theorem awpD_guard {op : Op} {j : Nat} {want : Bool} : awpD P own ops (⟨dst, op, ty, pos, aft, some (j, want)⟩ :: rest) K st = stepG (guardG ops st j want) (awpD P own ops) ⟨dst, op, ty, pos, aft, none⟩ rest K st := by
  have h : guardS ops st ⟨dst, op, ty, pos, aft, some (j, want)⟩ = guardG ops st j want := rfl
  have h2 : guardS ops st ⟨dst, op, ty, pos, aft, none⟩ = some true := rfl
  simp only [awpD, h, h2]
  cases guardG ops st j want with
  | none => rfl
  | some g => cases g <;> rfl
@[go_sem] theorem awpL_move {x : Operand} : awpL P own ops (⟨dst, .move x, ty, pos, aft, none⟩ :: rest) K st = awpL P own ops rest K (st.put dst (st.ev x)) := by
  rfl
@[go_sem] theorem awpD_move {x : Operand} : awpD P own ops (⟨dst, .move x, ty, pos, aft, none⟩ :: rest) K st = awpD P own ops rest K (st.put dst (st.ev x)) := by
  rfl
@[go_sem] theorem awpL_assign {x : Operand} : awpL P own ops (⟨dst, .assign x, ty, pos, aft, none⟩ :: rest) K st = step3 (assignD P own dst ty st (st.ev x)) (awpL P own ops) rest K st dst := by
  show (match opR P own ⟨dst, .assign x, ty, pos, aft, none⟩ st with | some (d, H, nx) => awpL P own ops rest K ({ st with H := H, nx := nx }.put dst d) | none => False) = _
  have h : opR P own ⟨dst, .assign x, ty, pos, aft, none⟩ st = assignD P own dst ty st (st.ev x) := by
    first | rfl | (simp only [opR, assignD]; split <;> rfl)
  rw [h]; cases (assignD P own dst ty st (st.ev x)) <;> rfl
@[go_sem] theorem awpD_assign {x : Operand} : awpD P own ops (⟨dst, .assign x, ty, pos, aft, none⟩ :: rest) K st = step3 (assignD P own dst ty st (st.ev x)) (awpD P own ops) rest K st dst := by
  show (match opR P own ⟨dst, .assign x, ty, pos, aft, none⟩ st with | some (d, H, nx) => awpD P own ops rest K ({ st with H := H, nx := nx }.put dst d) | none => False) = _
  have h : opR P own ⟨dst, .assign x, ty, pos, aft, none⟩ st = assignD P own dst ty st (st.ev x) := by
    first | rfl | (simp only [opR, assignD]; split <;> rfl)
  rw [h]; cases (assignD P own dst ty st (st.ev x)) <;> rfl
@[go_sem] theorem awpL_pick {c a b : Operand} : awpL P own ops (⟨dst, .pick c a b, ty, pos, aft, none⟩ :: rest) K st = stepO (pickD (st.ev c) (st.ev a) (st.ev b)) (awpL P own ops) rest K st dst := by
  show (match opR P own ⟨dst, .pick c a b, ty, pos, aft, none⟩ st with | some (d, H, nx) => awpL P own ops rest K ({ st with H := H, nx := nx }.put dst d) | none => False) = _
  have h : opR P own ⟨dst, .pick c a b, ty, pos, aft, none⟩ st = st.keep (pickD (st.ev c) (st.ev a) (st.ev b)) := by
    first | rfl | simp only [opR]
  rw [h]; cases (pickD (st.ev c) (st.ev a) (st.ev b)) <;> rfl
@[go_sem] theorem awpD_pick {c a b : Operand} : awpD P own ops (⟨dst, .pick c a b, ty, pos, aft, none⟩ :: rest) K st = stepO (pickD (st.ev c) (st.ev a) (st.ev b)) (awpD P own ops) rest K st dst := by
  show (match opR P own ⟨dst, .pick c a b, ty, pos, aft, none⟩ st with | some (d, H, nx) => awpD P own ops rest K ({ st with H := H, nx := nx }.put dst d) | none => False) = _
  have h : opR P own ⟨dst, .pick c a b, ty, pos, aft, none⟩ st = st.keep (pickD (st.ev c) (st.ev a) (st.ev b)) := by
    first | rfl | simp only [opR]
  rw [h]; cases (pickD (st.ev c) (st.ev a) (st.ev b)) <;> rfl
@[go_sem] theorem awpL_alloc {e : TypeId} : awpL P own ops (⟨dst, .alloc e, ty, pos, aft, none⟩ :: rest) K st = stepB e (zeroT P e) (awpL P own ops) rest K st dst := by
  show (match opR P own ⟨dst, .alloc e, ty, pos, aft, none⟩ st with | some (d, H, nx) => awpL P own ops rest K ({ st with H := H, nx := nx }.put dst d) | none => False) = _
  have h : opR P own ⟨dst, .alloc e, ty, pos, aft, none⟩ st = (zeroT P e).map fun x => (.ptr st.nx 0, updH st.H st.nx (some (.box e x)), st.nx + 1) := by rfl
  rw [h]; cases (zeroT P e) <;> rfl
@[go_sem] theorem awpD_alloc {e : TypeId} : awpD P own ops (⟨dst, .alloc e, ty, pos, aft, none⟩ :: rest) K st = stepK (okA own dst st) (stepB e (zeroT P e) (awpD P own ops) rest K st dst) := by
  show (match opR P own ⟨dst, .alloc e, ty, pos, aft, none⟩ st with | some (d, H, nx) => stepK (okA own dst st) (awpD P own ops rest K ({ st with H := H, nx := nx }.put dst d)) | none => False) = _
  have h : opR P own ⟨dst, .alloc e, ty, pos, aft, none⟩ st = (zeroT P e).map fun x => (.ptr st.nx 0, updH st.H st.nx (some (.box e x)), st.nx + 1) := by rfl
  rw [h]; cases (zeroT P e) <;> first | exact (stepK_not _).symm | rfl
@[go_sem] theorem awpL_box {e : TypeId} {x : Operand} : awpL P own ops (⟨dst, .box e x, ty, pos, aft, none⟩ :: rest) K st = stepB e (cellsD (st.ev x)) (awpL P own ops) rest K st dst := by
  show (match opR P own ⟨dst, .box e x, ty, pos, aft, none⟩ st with | some (d, H, nx) => awpL P own ops rest K ({ st with H := H, nx := nx }.put dst d) | none => False) = _
  have h : opR P own ⟨dst, .box e x, ty, pos, aft, none⟩ st = (cellsD (st.ev x)).map fun x => (.ptr st.nx 0, updH st.H st.nx (some (.box e x)), st.nx + 1) := by rfl
  rw [h]; cases (cellsD (st.ev x)) <;> rfl
@[go_sem] theorem awpD_box {e : TypeId} {x : Operand} : awpD P own ops (⟨dst, .box e x, ty, pos, aft, none⟩ :: rest) K st = stepB e (cellsD (st.ev x)) (awpD P own ops) rest K st dst := by
  show (match opR P own ⟨dst, .box e x, ty, pos, aft, none⟩ st with | some (d, H, nx) => awpD P own ops rest K ({ st with H := H, nx := nx }.put dst d) | none => False) = _
  have h : opR P own ⟨dst, .box e x, ty, pos, aft, none⟩ st = (cellsD (st.ev x)).map fun x => (.ptr st.nx 0, updH st.H st.nx (some (.box e x)), st.nx + 1) := by rfl
  rw [h]; cases (cellsD (st.ev x)) <;> rfl
@[go_sem] theorem awpL_build {t : TypeId} {parts : Array (Nat × Operand)} : awpL P own ops (⟨dst, .build t parts, ty, pos, aft, none⟩ :: rest) K st = stepO (buildD P t (parts.toList.map fun (i, x) => (i, st.ev x))) (awpL P own ops) rest K st dst := by
  show (match opR P own ⟨dst, .build t parts, ty, pos, aft, none⟩ st with | some (d, H, nx) => awpL P own ops rest K ({ st with H := H, nx := nx }.put dst d) | none => False) = _
  have h : opR P own ⟨dst, .build t parts, ty, pos, aft, none⟩ st = st.keep (buildD P t (parts.toList.map fun (i, x) => (i, st.ev x))) := by
    first | rfl | simp only [opR]
  rw [h]; cases (buildD P t (parts.toList.map fun (i, x) => (i, st.ev x))) <;> rfl
@[go_sem] theorem awpD_build {t : TypeId} {parts : Array (Nat × Operand)} : awpD P own ops (⟨dst, .build t parts, ty, pos, aft, none⟩ :: rest) K st = stepO (buildD P t (parts.toList.map fun (i, x) => (i, st.ev x))) (awpD P own ops) rest K st dst := by
  show (match opR P own ⟨dst, .build t parts, ty, pos, aft, none⟩ st with | some (d, H, nx) => awpD P own ops rest K ({ st with H := H, nx := nx }.put dst d) | none => False) = _
  have h : opR P own ⟨dst, .build t parts, ty, pos, aft, none⟩ st = st.keep (buildD P t (parts.toList.map fun (i, x) => (i, st.ev x))) := by
    first | rfl | simp only [opR]
  rw [h]; cases (buildD P t (parts.toList.map fun (i, x) => (i, st.ev x))) <;> rfl
@[go_sem] theorem awpL_buildSlice {t : TypeId} {len : Nat} {parts : Array (Nat × Operand)} : awpL P own ops (⟨dst, .buildSlice t len parts, ty, pos, aft, none⟩ :: rest) K st = step3 (buildSliceD P own dst st t len (parts.toList.map (·.1)) (parts.toList.map fun x => st.ev x.2)) (awpL P own ops) rest K st dst := by
  show (match opR P own ⟨dst, .buildSlice t len parts, ty, pos, aft, none⟩ st with | some (d, H, nx) => awpL P own ops rest K ({ st with H := H, nx := nx }.put dst d) | none => False) = _
  have h : opR P own ⟨dst, .buildSlice t len parts, ty, pos, aft, none⟩ st = buildSliceD P own dst st t len (parts.toList.map (·.1)) (parts.toList.map fun x => st.ev x.2) := by
    first | rfl | (simp only [opR, buildSliceD])
  rw [h]; cases (buildSliceD P own dst st t len (parts.toList.map (·.1)) (parts.toList.map fun x => st.ev x.2)) <;> rfl
@[go_sem] theorem awpD_buildSlice {t : TypeId} {len : Nat} {parts : Array (Nat × Operand)} : awpD P own ops (⟨dst, .buildSlice t len parts, ty, pos, aft, none⟩ :: rest) K st = stepK (okS own dst st) (step3 (buildSliceD P own dst st t len (parts.toList.map (·.1)) (parts.toList.map fun x => st.ev x.2)) (awpD P own ops) rest K st dst) := by
  show (match opR P own ⟨dst, .buildSlice t len parts, ty, pos, aft, none⟩ st with | some (d, H, nx) => stepK (okS own dst st) (awpD P own ops rest K ({ st with H := H, nx := nx }.put dst d)) | none => False) = _
  have h : opR P own ⟨dst, .buildSlice t len parts, ty, pos, aft, none⟩ st = buildSliceD P own dst st t len (parts.toList.map (·.1)) (parts.toList.map fun x => st.ev x.2) := by
    first | rfl | (simp only [opR, buildSliceD])
  rw [h]; cases (buildSliceD P own dst st t len (parts.toList.map (·.1)) (parts.toList.map fun x => st.ev x.2)) <;> first | exact (stepK_not _).symm | rfl
@[go_sem] theorem awpL_load {t : TypeId} {p : Operand} : awpL P own ops (⟨dst, .load t p, ty, pos, aft, none⟩ :: rest) K st = stepO (loadG P own dst st.H st.nx t (st.ev p)) (awpL P own ops) rest K st dst := by
  show (match opR P own ⟨dst, .load t p, ty, pos, aft, none⟩ st with | some (d, H, nx) => awpL P own ops rest K ({ st with H := H, nx := nx }.put dst d) | none => False) = _
  have h : opR P own ⟨dst, .load t p, ty, pos, aft, none⟩ st = st.keep (loadG P own dst st.H st.nx t (st.ev p)) := by
    first | rfl | simp only [opR]
  rw [h]; cases (loadG P own dst st.H st.nx t (st.ev p)) <;> rfl
@[go_sem] theorem awpD_load {t : TypeId} {p : Operand} : awpD P own ops (⟨dst, .load t p, ty, pos, aft, none⟩ :: rest) K st = stepK (okT own dst (st.ev p)) (stepO (loadG P own dst st.H st.nx t (st.ev p)) (awpD P own ops) rest K st dst) := by
  show (match opR P own ⟨dst, .load t p, ty, pos, aft, none⟩ st with | some (d, H, nx) => stepK (okT own dst (st.ev p)) (awpD P own ops rest K ({ st with H := H, nx := nx }.put dst d)) | none => False) = _
  have h : opR P own ⟨dst, .load t p, ty, pos, aft, none⟩ st = st.keep (loadG P own dst st.H st.nx t (st.ev p)) := by
    first | rfl | simp only [opR]
  rw [h]; cases (loadG P own dst st.H st.nx t (st.ev p)) <;> first | exact (stepK_not _).symm | rfl
@[go_sem] theorem awpL_store {t : TypeId} {p v : Operand} : awpL P own ops (⟨dst, .store t p v, ty, pos, aft, none⟩ :: rest) K st = stepH (storeD P st.H t (st.ev p) (st.ev v)) (awpL P own ops) rest K st dst := by
  show (match opR P own ⟨dst, .store t p v, ty, pos, aft, none⟩ st with | some (d, H, nx) => awpL P own ops rest K ({ st with H := H, nx := nx }.put dst d) | none => False) = _
  have h : opR P own ⟨dst, .store t p v, ty, pos, aft, none⟩ st = (storeD P st.H t (st.ev p) (st.ev v)).map fun x => (.any, x, st.nx) := by rfl
  rw [h]; cases (storeD P st.H t (st.ev p) (st.ev v)) <;> rfl
@[go_sem] theorem awpD_store {t : TypeId} {p v : Operand} : awpD P own ops (⟨dst, .store t p v, ty, pos, aft, none⟩ :: rest) K st = stepK (okT own (slotOf p) (st.ev p)) (stepH (storeD P st.H t (st.ev p) (st.ev v)) (awpD P own ops) rest K st dst) := by
  show (match opR P own ⟨dst, .store t p v, ty, pos, aft, none⟩ st with | some (d, H, nx) => stepK (okT own (slotOf p) (st.ev p)) (awpD P own ops rest K ({ st with H := H, nx := nx }.put dst d)) | none => False) = _
  have h : opR P own ⟨dst, .store t p v, ty, pos, aft, none⟩ st = (storeD P st.H t (st.ev p) (st.ev v)).map fun x => (.any, x, st.nx) := by rfl
  rw [h]; cases (storeD P st.H t (st.ev p) (st.ev v)) <;> first | exact (stepK_not _).symm | rfl
@[go_sem] theorem awpL_makeMap {t : TypeId} : awpL P own ops (⟨dst, .makeMap t none, ty, pos, aft, none⟩ :: rest) K st = step3 ((mapT P t).map fun _ => (.mp st.nx, updH st.H st.nx (some (.map [])), st.nx + 1)) (awpL P own ops) rest K st dst := by
  show (match opR P own ⟨dst, .makeMap t none, ty, pos, aft, none⟩ st with | some (d, H, nx) => awpL P own ops rest K ({ st with H := H, nx := nx }.put dst d) | none => False) = _
  have h : opR P own ⟨dst, .makeMap t none, ty, pos, aft, none⟩ st = (mapT P t).map fun _ => (.mp st.nx, updH st.H st.nx (some (.map [])), st.nx + 1) := by rfl
  rw [h]
  cases mapT P t <;> rfl
@[go_sem] theorem awpD_makeMap {t : TypeId} : awpD P own ops (⟨dst, .makeMap t none, ty, pos, aft, none⟩ :: rest) K st = step3 ((mapT P t).map fun _ => (.mp st.nx, updH st.H st.nx (some (.map [])), st.nx + 1)) (awpD P own ops) rest K st dst := by
  show (match opR P own ⟨dst, .makeMap t none, ty, pos, aft, none⟩ st with | some (d, H, nx) => awpD P own ops rest K ({ st with H := H, nx := nx }.put dst d) | none => False) = _
  have h : opR P own ⟨dst, .makeMap t none, ty, pos, aft, none⟩ st = (mapT P t).map fun _ => (.mp st.nx, updH st.H st.nx (some (.map [])), st.nx + 1) := by rfl
  rw [h]
  cases mapT P t <;> rfl
@[go_sem] theorem awpL_range {t : TypeId} {x : Operand} : awpL P own ops (⟨dst, .range t x, ty, pos, aft, none⟩ :: rest) K st = step3 ((rangeD P t (st.ev x)).map fun q => (.it st.nx, updH st.H st.nx (some (.raw q)), st.nx + 1)) (awpL P own ops) rest K st dst := by
  show (match opR P own ⟨dst, .range t x, ty, pos, aft, none⟩ st with | some (d, H, nx) => awpL P own ops rest K ({ st with H := H, nx := nx }.put dst d) | none => False) = _
  have h : opR P own ⟨dst, .range t x, ty, pos, aft, none⟩ st = (rangeD P t (st.ev x)).map fun q => (.it st.nx, updH st.H st.nx (some (.raw q)), st.nx + 1) := by rfl
  rw [h]
  cases rangeD P t (st.ev x) <;> rfl
@[go_sem] theorem awpL_next {x : Operand} {b : Bool} : awpL P own ops (⟨dst, .next x b, ty, pos, aft, none⟩ :: rest) K st = step3 (nextD st.H st.nx b (st.ev x)) (awpL P own ops) rest K st dst := by
  show (match opR P own ⟨dst, .next x b, ty, pos, aft, none⟩ st with | some (d, H, nx) => awpL P own ops rest K ({ st with H := H, nx := nx }.put dst d) | none => False) = _
  have h : opR P own ⟨dst, .next x b, ty, pos, aft, none⟩ st = nextD st.H st.nx b (st.ev x) := by rfl
  rw [h]
  rcases nextD st.H st.nx b (st.ev x) with _ | ⟨d, H, nx⟩ <;> rfl
@[go_sem] theorem awpD_range {t : TypeId} {x : Operand} : awpD P own ops (⟨dst, .range t x, ty, pos, aft, none⟩ :: rest) K st = step3 ((rangeD P t (st.ev x)).map fun q => (.it st.nx, updH st.H st.nx (some (.raw q)), st.nx + 1)) (awpD P own ops) rest K st dst := by
  show (match opR P own ⟨dst, .range t x, ty, pos, aft, none⟩ st with | some (d, H, nx) => awpD P own ops rest K ({ st with H := H, nx := nx }.put dst d) | none => False) = _
  have h : opR P own ⟨dst, .range t x, ty, pos, aft, none⟩ st = (rangeD P t (st.ev x)).map fun q => (.it st.nx, updH st.H st.nx (some (.raw q)), st.nx + 1) := by rfl
  rw [h]
  cases rangeD P t (st.ev x) <;> rfl
@[go_sem] theorem awpD_next {x : Operand} {b : Bool} : awpD P own ops (⟨dst, .next x b, ty, pos, aft, none⟩ :: rest) K st = step3 (nextD st.H st.nx b (st.ev x)) (awpD P own ops) rest K st dst := by
  show (match opR P own ⟨dst, .next x b, ty, pos, aft, none⟩ st with | some (d, H, nx) => awpD P own ops rest K ({ st with H := H, nx := nx }.put dst d) | none => False) = _
  have h : opR P own ⟨dst, .next x b, ty, pos, aft, none⟩ st = nextD st.H st.nx b (st.ev x) := by rfl
  rw [h]
  rcases nextD st.H st.nx b (st.ev x) with _ | ⟨d, H, nx⟩ <;> rfl
@[go_sem] theorem awpL_lookup {t : TypeId} {x k : Operand} {ok : Bool} : awpL P own ops (⟨dst, .lookup t x k ok, ty, pos, aft, none⟩ :: rest) K st = stepO (lookupD P st.H t (st.ev x) (st.ev k) ok) (awpL P own ops) rest K st dst := by
  show (match opR P own ⟨dst, .lookup t x k ok, ty, pos, aft, none⟩ st with | some (d, H, nx) => awpL P own ops rest K ({ st with H := H, nx := nx }.put dst d) | none => False) = _
  have h : opR P own ⟨dst, .lookup t x k ok, ty, pos, aft, none⟩ st = st.keep (lookupD P st.H t (st.ev x) (st.ev k) ok) := by rfl
  rw [h]
  cases lookupD P st.H t (st.ev x) (st.ev k) ok <;> rfl
@[go_sem] theorem awpD_lookup {t : TypeId} {x k : Operand} {ok : Bool} : awpD P own ops (⟨dst, .lookup t x k ok, ty, pos, aft, none⟩ :: rest) K st = stepO (lookupD P st.H t (st.ev x) (st.ev k) ok) (awpD P own ops) rest K st dst := by
  show (match opR P own ⟨dst, .lookup t x k ok, ty, pos, aft, none⟩ st with | some (d, H, nx) => awpD P own ops rest K ({ st with H := H, nx := nx }.put dst d) | none => False) = _
  have h : opR P own ⟨dst, .lookup t x k ok, ty, pos, aft, none⟩ st = st.keep (lookupD P st.H t (st.ev x) (st.ev k) ok) := by rfl
  rw [h]
  cases lookupD P st.H t (st.ev x) (st.ev k) ok <;> rfl
@[go_sem] theorem awpL_mapUpdate {t : TypeId} {m k x : Operand} : awpL P own ops (⟨dst, .mapUpdate t m k x, ty, pos, aft, none⟩ :: rest) K st = stepH (updateD P st.H t (st.ev m) (st.ev k) (st.ev x)) (awpL P own ops) rest K st dst := by
  show (match opR P own ⟨dst, .mapUpdate t m k x, ty, pos, aft, none⟩ st with | some (d, H, nx) => awpL P own ops rest K ({ st with H := H, nx := nx }.put dst d) | none => False) = _
  have h : opR P own ⟨dst, .mapUpdate t m k x, ty, pos, aft, none⟩ st = (updateD P st.H t (st.ev m) (st.ev k) (st.ev x)).map fun x => (.any, x, st.nx) := by rfl
  rw [h]
  cases updateD P st.H t (st.ev m) (st.ev k) (st.ev x) <;> rfl
@[go_sem] theorem awpD_mapUpdate {t : TypeId} {m k x : Operand} : awpD P own ops (⟨dst, .mapUpdate t m k x, ty, pos, aft, none⟩ :: rest) K st = stepH (updateD P st.H t (st.ev m) (st.ev k) (st.ev x)) (awpD P own ops) rest K st dst := by
  show (match opR P own ⟨dst, .mapUpdate t m k x, ty, pos, aft, none⟩ st with | some (d, H, nx) => awpD P own ops rest K ({ st with H := H, nx := nx }.put dst d) | none => False) = _
  have h : opR P own ⟨dst, .mapUpdate t m k x, ty, pos, aft, none⟩ st = (updateD P st.H t (st.ev m) (st.ev k) (st.ev x)).map fun x => (.any, x, st.nx) := by rfl
  rw [h]
  cases updateD P st.H t (st.ev m) (st.ev k) (st.ev x) <;> rfl
@[go_sem] theorem awpL_insert {t : TypeId} {m k x : Operand} : awpL P own ops (⟨dst, .insert t m k x, ty, pos, aft, none⟩ :: rest) K st = stepH (updateD P st.H t (st.ev m) (st.ev k) (st.ev x)) (awpL P own ops) rest K st dst := by
  show (match opR P own ⟨dst, .insert t m k x, ty, pos, aft, none⟩ st with | some (d, H, nx) => awpL P own ops rest K ({ st with H := H, nx := nx }.put dst d) | none => False) = _
  have h : opR P own ⟨dst, .insert t m k x, ty, pos, aft, none⟩ st = (updateD P st.H t (st.ev m) (st.ev k) (st.ev x)).map fun x => (.any, x, st.nx) := by rfl
  rw [h]
  cases updateD P st.H t (st.ev m) (st.ev k) (st.ev x) <;> rfl
@[go_sem] theorem awpD_insert {t : TypeId} {m k x : Operand} : awpD P own ops (⟨dst, .insert t m k x, ty, pos, aft, none⟩ :: rest) K st = stepH (updateD P st.H t (st.ev m) (st.ev k) (st.ev x)) (awpD P own ops) rest K st dst := by
  show (match opR P own ⟨dst, .insert t m k x, ty, pos, aft, none⟩ st with | some (d, H, nx) => awpD P own ops rest K ({ st with H := H, nx := nx }.put dst d) | none => False) = _
  have h : opR P own ⟨dst, .insert t m k x, ty, pos, aft, none⟩ st = (updateD P st.H t (st.ev m) (st.ev k) (st.ev x)).map fun x => (.any, x, st.nx) := by rfl
  rw [h]
  cases updateD P st.H t (st.ev m) (st.ev k) (st.ev x) <;> rfl
@[go_sem] theorem awpL_binOp {op : BinOp} {t u : TypeId} {x y : Operand} : awpL P own ops (⟨dst, .binOp op t x y u, ty, pos, aft, none⟩ :: rest) K st = stepO (binD P op t (st.ev x) (st.ev y)) (awpL P own ops) rest K st dst := by
  show (match opR P own ⟨dst, .binOp op t x y u, ty, pos, aft, none⟩ st with | some (d, H, nx) => awpL P own ops rest K ({ st with H := H, nx := nx }.put dst d) | none => False) = _
  have h : opR P own ⟨dst, .binOp op t x y u, ty, pos, aft, none⟩ st = st.keep (binD P op t (st.ev x) (st.ev y)) := by
    first | rfl | simp only [opR]
  rw [h]; cases (binD P op t (st.ev x) (st.ev y)) <;> rfl
@[go_sem] theorem awpD_binOp {op : BinOp} {t u : TypeId} {x y : Operand} : awpD P own ops (⟨dst, .binOp op t x y u, ty, pos, aft, none⟩ :: rest) K st = stepO (binD P op t (st.ev x) (st.ev y)) (awpD P own ops) rest K st dst := by
  show (match opR P own ⟨dst, .binOp op t x y u, ty, pos, aft, none⟩ st with | some (d, H, nx) => awpD P own ops rest K ({ st with H := H, nx := nx }.put dst d) | none => False) = _
  have h : opR P own ⟨dst, .binOp op t x y u, ty, pos, aft, none⟩ st = st.keep (binD P op t (st.ev x) (st.ev y)) := by
    first | rfl | simp only [opR]
  rw [h]; cases (binD P op t (st.ev x) (st.ev y)) <;> rfl
@[go_sem] theorem awpL_unOp {op : UnOp} {t : TypeId} {x : Operand} : awpL P own ops (⟨dst, .unOp op t x, ty, pos, aft, none⟩ :: rest) K st = stepO (unD op (st.ev x)) (awpL P own ops) rest K st dst := by
  show (match opR P own ⟨dst, .unOp op t x, ty, pos, aft, none⟩ st with | some (d, H, nx) => awpL P own ops rest K ({ st with H := H, nx := nx }.put dst d) | none => False) = _
  have h : opR P own ⟨dst, .unOp op t x, ty, pos, aft, none⟩ st = st.keep (unD op (st.ev x)) := by
    first | rfl | simp only [opR]
  rw [h]; cases (unD op (st.ev x)) <;> rfl
@[go_sem] theorem awpD_unOp {op : UnOp} {t : TypeId} {x : Operand} : awpD P own ops (⟨dst, .unOp op t x, ty, pos, aft, none⟩ :: rest) K st = stepO (unD op (st.ev x)) (awpD P own ops) rest K st dst := by
  show (match opR P own ⟨dst, .unOp op t x, ty, pos, aft, none⟩ st with | some (d, H, nx) => awpD P own ops rest K ({ st with H := H, nx := nx }.put dst d) | none => False) = _
  have h : opR P own ⟨dst, .unOp op t x, ty, pos, aft, none⟩ st = st.keep (unD op (st.ev x)) := by
    first | rfl | simp only [opR]
  rw [h]; cases (unD op (st.ev x)) <;> rfl
@[go_sem] theorem awpL_convert {s t : TypeId} {x : Operand} : awpL P own ops (⟨dst, .convert s t x, ty, pos, aft, none⟩ :: rest) K st = stepO (convD P s t (st.ev x)) (awpL P own ops) rest K st dst := by
  show (match opR P own ⟨dst, .convert s t x, ty, pos, aft, none⟩ st with | some (d, H, nx) => awpL P own ops rest K ({ st with H := H, nx := nx }.put dst d) | none => False) = _
  have h : opR P own ⟨dst, .convert s t x, ty, pos, aft, none⟩ st = st.keep (convD P s t (st.ev x)) := by
    first | rfl | simp only [opR]
  rw [h]; cases (convD P s t (st.ev x)) <;> rfl
@[go_sem] theorem awpD_convert {s t : TypeId} {x : Operand} : awpD P own ops (⟨dst, .convert s t x, ty, pos, aft, none⟩ :: rest) K st = stepO (convD P s t (st.ev x)) (awpD P own ops) rest K st dst := by
  show (match opR P own ⟨dst, .convert s t x, ty, pos, aft, none⟩ st with | some (d, H, nx) => awpD P own ops rest K ({ st with H := H, nx := nx }.put dst d) | none => False) = _
  have h : opR P own ⟨dst, .convert s t x, ty, pos, aft, none⟩ st = st.keep (convD P s t (st.ev x)) := by
    first | rfl | simp only [opR]
  rw [h]; cases (convD P s t (st.ev x)) <;> rfl
@[go_sem] theorem awpL_makeFunc {f : FuncId} {cap : Array Operand} : awpL P own ops (⟨dst, .makeFunc (.func f) #[] cap, ty, pos, aft, none⟩ :: rest) K st = awpL P own ops rest K (st.put dst (.fn f (cap.toList.map st.ev))) := by
  rfl
@[go_sem] theorem awpD_makeFunc {f : FuncId} {cap : Array Operand} : awpD P own ops (⟨dst, .makeFunc (.func f) #[] cap, ty, pos, aft, none⟩ :: rest) K st = awpD P own ops rest K (st.put dst (.fn f (cap.toList.map st.ev))) := by
  rfl
@[go_sem] theorem awpL_makeSlice {t : TypeId} {l c : Operand} : awpL P own ops (⟨dst, .makeSlice t l c, ty, pos, aft, none⟩ :: rest) K st = step3 (makeSliceD P st t (st.ev l) (st.ev c)) (awpL P own ops) rest K st dst := by
  show (match opR P own ⟨dst, .makeSlice t l c, ty, pos, aft, none⟩ st with | some (d, H, nx) => awpL P own ops rest K ({ st with H := H, nx := nx }.put dst d) | none => False) = _
  have h : opR P own ⟨dst, .makeSlice t l c, ty, pos, aft, none⟩ st = makeSliceD P st t (st.ev l) (st.ev c) := by
    first | rfl | (simp only [opR, makeSliceD]; split <;> rfl)
  rw [h]; cases (makeSliceD P st t (st.ev l) (st.ev c)) <;> rfl
@[go_sem] theorem awpD_makeSlice {t : TypeId} {l c : Operand} : awpD P own ops (⟨dst, .makeSlice t l c, ty, pos, aft, none⟩ :: rest) K st = step3 (makeSliceD P st t (st.ev l) (st.ev c)) (awpD P own ops) rest K st dst := by
  show (match opR P own ⟨dst, .makeSlice t l c, ty, pos, aft, none⟩ st with | some (d, H, nx) => awpD P own ops rest K ({ st with H := H, nx := nx }.put dst d) | none => False) = _
  have h : opR P own ⟨dst, .makeSlice t l c, ty, pos, aft, none⟩ st = makeSliceD P st t (st.ev l) (st.ev c) := by
    first | rfl | (simp only [opR, makeSliceD]; split <;> rfl)
  rw [h]; cases (makeSliceD P st t (st.ev l) (st.ev c)) <;> rfl
@[go_sem] theorem awpL_slice {t : TypeId} {x : Operand} {lo hi : Option Operand} : awpL P own ops (⟨dst, .slice t x lo hi none, ty, pos, aft, none⟩ :: rest) K st = stepO (sliceD P t (st.ev x) (lo.map st.ev) (hi.map st.ev)) (awpL P own ops) rest K st dst := by
  show (match opR P own ⟨dst, .slice t x lo hi none, ty, pos, aft, none⟩ st with | some (d, H, nx) => awpL P own ops rest K ({ st with H := H, nx := nx }.put dst d) | none => False) = _
  have h : opR P own ⟨dst, .slice t x lo hi none, ty, pos, aft, none⟩ st = st.keep (sliceD P t (st.ev x) (lo.map st.ev) (hi.map st.ev)) := by
    first | rfl | simp only [opR]
  rw [h]; cases (sliceD P t (st.ev x) (lo.map st.ev) (hi.map st.ev)) <;> rfl
@[go_sem] theorem awpD_slice {t : TypeId} {x : Operand} {lo hi : Option Operand} : awpD P own ops (⟨dst, .slice t x lo hi none, ty, pos, aft, none⟩ :: rest) K st = stepO (sliceD P t (st.ev x) (lo.map st.ev) (hi.map st.ev)) (awpD P own ops) rest K st dst := by
  show (match opR P own ⟨dst, .slice t x lo hi none, ty, pos, aft, none⟩ st with | some (d, H, nx) => awpD P own ops rest K ({ st with H := H, nx := nx }.put dst d) | none => False) = _
  have h : opR P own ⟨dst, .slice t x lo hi none, ty, pos, aft, none⟩ st = st.keep (sliceD P t (st.ev x) (lo.map st.ev) (hi.map st.ev)) := by
    first | rfl | simp only [opR]
  rw [h]; cases (sliceD P t (st.ev x) (lo.map st.ev) (hi.map st.ev)) <;> rfl
@[go_sem] theorem awpL_fieldAddr {t : TypeId} {x : Operand} {f : Nat} : awpL P own ops (⟨dst, .fieldAddr t x f, ty, pos, aft, none⟩ :: rest) K st = stepO (fieldAddrD P t (st.ev x) f) (awpL P own ops) rest K st dst := by
  show (match opR P own ⟨dst, .fieldAddr t x f, ty, pos, aft, none⟩ st with | some (d, H, nx) => awpL P own ops rest K ({ st with H := H, nx := nx }.put dst d) | none => False) = _
  have h : opR P own ⟨dst, .fieldAddr t x f, ty, pos, aft, none⟩ st = st.keep (fieldAddrD P t (st.ev x) f) := by
    first | rfl | simp only [opR]
  rw [h]; cases (fieldAddrD P t (st.ev x) f) <;> rfl
@[go_sem] theorem awpD_fieldAddr {t : TypeId} {x : Operand} {f : Nat} : awpD P own ops (⟨dst, .fieldAddr t x f, ty, pos, aft, none⟩ :: rest) K st = stepO (fieldAddrD P t (st.ev x) f) (awpD P own ops) rest K st dst := by
  show (match opR P own ⟨dst, .fieldAddr t x f, ty, pos, aft, none⟩ st with | some (d, H, nx) => awpD P own ops rest K ({ st with H := H, nx := nx }.put dst d) | none => False) = _
  have h : opR P own ⟨dst, .fieldAddr t x f, ty, pos, aft, none⟩ st = st.keep (fieldAddrD P t (st.ev x) f) := by
    first | rfl | simp only [opR]
  rw [h]; cases (fieldAddrD P t (st.ev x) f) <;> rfl
@[go_sem] theorem awpL_field {t : TypeId} {x : Operand} {f : Nat} : awpL P own ops (⟨dst, .field t x f, ty, pos, aft, none⟩ :: rest) K st = stepO (fieldD P t (st.ev x) f) (awpL P own ops) rest K st dst := by
  show (match opR P own ⟨dst, .field t x f, ty, pos, aft, none⟩ st with | some (d, H, nx) => awpL P own ops rest K ({ st with H := H, nx := nx }.put dst d) | none => False) = _
  have h : opR P own ⟨dst, .field t x f, ty, pos, aft, none⟩ st = st.keep (fieldD P t (st.ev x) f) := by
    simp only [opR, fieldD]; split <;> first | rfl | (rename_i h1 h2; simp only [h1, h2]) | (split <;> first | rfl | simp_all [St.keep])
  rw [h]; cases (fieldD P t (st.ev x) f) <;> rfl
@[go_sem] theorem awpD_field {t : TypeId} {x : Operand} {f : Nat} : awpD P own ops (⟨dst, .field t x f, ty, pos, aft, none⟩ :: rest) K st = stepO (fieldD P t (st.ev x) f) (awpD P own ops) rest K st dst := by
  show (match opR P own ⟨dst, .field t x f, ty, pos, aft, none⟩ st with | some (d, H, nx) => awpD P own ops rest K ({ st with H := H, nx := nx }.put dst d) | none => False) = _
  have h : opR P own ⟨dst, .field t x f, ty, pos, aft, none⟩ st = st.keep (fieldD P t (st.ev x) f) := by
    simp only [opR, fieldD]; split <;> first | rfl | (rename_i h1 h2; simp only [h1, h2]) | (split <;> first | rfl | simp_all [St.keep])
  rw [h]; cases (fieldD P t (st.ev x) f) <;> rfl
@[go_sem] theorem awpL_indexAddr {t : TypeId} {x i : Operand} : awpL P own ops (⟨dst, .indexAddr t x i, ty, pos, aft, none⟩ :: rest) K st = stepO (indexAddrD P (hmG own dst st.H) t (st.ev x) (st.ev i)) (awpL P own ops) rest K st dst := by
  show (match opR P own ⟨dst, .indexAddr t x i, ty, pos, aft, none⟩ st with | some (d, H, nx) => awpL P own ops rest K ({ st with H := H, nx := nx }.put dst d) | none => False) = _
  have h : opR P own ⟨dst, .indexAddr t x i, ty, pos, aft, none⟩ st = st.keep (indexAddrD P (hmG own dst st.H) t (st.ev x) (st.ev i)) := by
    first | rfl | simp only [opR]
  rw [h]; cases (indexAddrD P (hmG own dst st.H) t (st.ev x) (st.ev i)) <;> rfl
@[go_sem] theorem awpD_indexAddr {t : TypeId} {x i : Operand} : awpD P own ops (⟨dst, .indexAddr t x i, ty, pos, aft, none⟩ :: rest) K st = stepO (indexAddrD P (hmG own dst st.H) t (st.ev x) (st.ev i)) (awpD P own ops) rest K st dst := by
  show (match opR P own ⟨dst, .indexAddr t x i, ty, pos, aft, none⟩ st with | some (d, H, nx) => awpD P own ops rest K ({ st with H := H, nx := nx }.put dst d) | none => False) = _
  have h : opR P own ⟨dst, .indexAddr t x i, ty, pos, aft, none⟩ st = st.keep (indexAddrD P (hmG own dst st.H) t (st.ev x) (st.ev i)) := by
    first | rfl | simp only [opR]
  rw [h]; cases (indexAddrD P (hmG own dst st.H) t (st.ev x) (st.ev i)) <;> rfl
@[go_sem] theorem awpL_index {t : TypeId} {x i : Operand} : awpL P own ops (⟨dst, .index t x i, ty, pos, aft, none⟩ :: rest) K st = stepO (indexD P t (st.ev x) (st.ev i)) (awpL P own ops) rest K st dst := by
  show (match opR P own ⟨dst, .index t x i, ty, pos, aft, none⟩ st with | some (d, H, nx) => awpL P own ops rest K ({ st with H := H, nx := nx }.put dst d) | none => False) = _
  have h : opR P own ⟨dst, .index t x i, ty, pos, aft, none⟩ st = st.keep (indexD P t (st.ev x) (st.ev i)) := by
    first | rfl | simp only [opR]
  rw [h]; cases (indexD P t (st.ev x) (st.ev i)) <;> rfl
@[go_sem] theorem awpD_index {t : TypeId} {x i : Operand} : awpD P own ops (⟨dst, .index t x i, ty, pos, aft, none⟩ :: rest) K st = stepO (indexD P t (st.ev x) (st.ev i)) (awpD P own ops) rest K st dst := by
  show (match opR P own ⟨dst, .index t x i, ty, pos, aft, none⟩ st with | some (d, H, nx) => awpD P own ops rest K ({ st with H := H, nx := nx }.put dst d) | none => False) = _
  have h : opR P own ⟨dst, .index t x i, ty, pos, aft, none⟩ st = st.keep (indexD P t (st.ev x) (st.ev i)) := by
    first | rfl | simp only [opR]
  rw [h]; cases (indexD P t (st.ev x) (st.ev i)) <;> rfl
@[go_sem] theorem awpL_extract {x : Operand} {i : Nat} : awpL P own ops (⟨dst, .extract x i, ty, pos, aft, none⟩ :: rest) K st = stepO (extractD (st.ev x) i) (awpL P own ops) rest K st dst := by
  show (match opR P own ⟨dst, .extract x i, ty, pos, aft, none⟩ st with | some (d, H, nx) => awpL P own ops rest K ({ st with H := H, nx := nx }.put dst d) | none => False) = _
  have h : opR P own ⟨dst, .extract x i, ty, pos, aft, none⟩ st = st.keep (extractD (st.ev x) i) := by
    simp only [opR, extractD]; generalize st.ev x = v; cases v <;> rfl
  rw [h]; cases (extractD (st.ev x) i) <;> rfl
@[go_sem] theorem awpD_extract {x : Operand} {i : Nat} : awpD P own ops (⟨dst, .extract x i, ty, pos, aft, none⟩ :: rest) K st = stepO (extractD (st.ev x) i) (awpD P own ops) rest K st dst := by
  show (match opR P own ⟨dst, .extract x i, ty, pos, aft, none⟩ st with | some (d, H, nx) => awpD P own ops rest K ({ st with H := H, nx := nx }.put dst d) | none => False) = _
  have h : opR P own ⟨dst, .extract x i, ty, pos, aft, none⟩ st = st.keep (extractD (st.ev x) i) := by
    simp only [opR, extractD]; generalize st.ev x = v; cases v <;> rfl
  rw [h]; cases (extractD (st.ev x) i) <;> rfl
@[go_sem] theorem awpL_nilCheck {x : Operand} : awpL P own ops (⟨dst, .nilCheck x, ty, pos, aft, none⟩ :: rest) K st = stepO (nilCheckD (st.ev x)) (awpL P own ops) rest K st dst := by
  show (match opR P own ⟨dst, .nilCheck x, ty, pos, aft, none⟩ st with | some (d, H, nx) => awpL P own ops rest K ({ st with H := H, nx := nx }.put dst d) | none => False) = _
  have h : opR P own ⟨dst, .nilCheck x, ty, pos, aft, none⟩ st = st.keep (nilCheckD (st.ev x)) := by
    simp only [opR, nilCheckD]; generalize st.ev x = v; cases v <;> rfl
  rw [h]; cases (nilCheckD (st.ev x)) <;> rfl
@[go_sem] theorem awpD_nilCheck {x : Operand} : awpD P own ops (⟨dst, .nilCheck x, ty, pos, aft, none⟩ :: rest) K st = stepO (nilCheckD (st.ev x)) (awpD P own ops) rest K st dst := by
  show (match opR P own ⟨dst, .nilCheck x, ty, pos, aft, none⟩ st with | some (d, H, nx) => awpD P own ops rest K ({ st with H := H, nx := nx }.put dst d) | none => False) = _
  have h : opR P own ⟨dst, .nilCheck x, ty, pos, aft, none⟩ st = st.keep (nilCheckD (st.ev x)) := by
    simp only [opR, nilCheckD]; generalize st.ev x = v; cases v <;> rfl
  rw [h]; cases (nilCheckD (st.ev x)) <;> rfl
@[go_sem] theorem awpL_len {x : Operand} {t : TypeId} : awpL P own ops (⟨dst, .call ⟨.builtin .len, #[x], #[t]⟩, ty, pos, aft, none⟩ :: rest) K st = stepO (lenD P (hmG own dst st.H) t (st.ev x)) (awpL P own ops) rest K st dst := by
  show (match opR P own ⟨dst, .call ⟨.builtin .len, #[x], #[t]⟩, ty, pos, aft, none⟩ st with | some (d, H, nx) => awpL P own ops rest K ({ st with H := H, nx := nx }.put dst d) | none => False) = _
  have h : opR P own ⟨dst, .call ⟨.builtin .len, #[x], #[t]⟩, ty, pos, aft, none⟩ st = st.keep (lenD P (hmG own dst st.H) t (st.ev x)) := by
    first | rfl | simp only [opR]
  rw [h]; cases (lenD P (hmG own dst st.H) t (st.ev x)) <;> rfl
@[go_sem] theorem awpD_len {x : Operand} {t : TypeId} : awpD P own ops (⟨dst, .call ⟨.builtin .len, #[x], #[t]⟩, ty, pos, aft, none⟩ :: rest) K st = stepO (lenD P (hmG own dst st.H) t (st.ev x)) (awpD P own ops) rest K st dst := by
  show (match opR P own ⟨dst, .call ⟨.builtin .len, #[x], #[t]⟩, ty, pos, aft, none⟩ st with | some (d, H, nx) => awpD P own ops rest K ({ st with H := H, nx := nx }.put dst d) | none => False) = _
  have h : opR P own ⟨dst, .call ⟨.builtin .len, #[x], #[t]⟩, ty, pos, aft, none⟩ st = st.keep (lenD P (hmG own dst st.H) t (st.ev x)) := by
    first | rfl | simp only [opR]
  rw [h]; cases (lenD P (hmG own dst st.H) t (st.ev x)) <;> rfl
@[go_sem] theorem awpL_max {x y : Operand} {tys : Array TypeId} : awpL P own ops (⟨dst, .call ⟨.builtin .max, #[x, y], tys⟩, ty, pos, aft, none⟩ :: rest) K st = stepO (maxD (st.ev x) (st.ev y)) (awpL P own ops) rest K st dst := by
  show (match opR P own ⟨dst, .call ⟨.builtin .max, #[x, y], tys⟩, ty, pos, aft, none⟩ st with | some (d, H, nx) => awpL P own ops rest K ({ st with H := H, nx := nx }.put dst d) | none => False) = _
  have h : opR P own ⟨dst, .call ⟨.builtin .max, #[x, y], tys⟩, ty, pos, aft, none⟩ st = st.keep (maxD (st.ev x) (st.ev y)) := by
    first | rfl | simp only [opR]
  rw [h]; cases (maxD (st.ev x) (st.ev y)) <;> rfl
@[go_sem] theorem awpD_max {x y : Operand} {tys : Array TypeId} : awpD P own ops (⟨dst, .call ⟨.builtin .max, #[x, y], tys⟩, ty, pos, aft, none⟩ :: rest) K st = stepO (maxD (st.ev x) (st.ev y)) (awpD P own ops) rest K st dst := by
  show (match opR P own ⟨dst, .call ⟨.builtin .max, #[x, y], tys⟩, ty, pos, aft, none⟩ st with | some (d, H, nx) => awpD P own ops rest K ({ st with H := H, nx := nx }.put dst d) | none => False) = _
  have h : opR P own ⟨dst, .call ⟨.builtin .max, #[x, y], tys⟩, ty, pos, aft, none⟩ st = st.keep (maxD (st.ev x) (st.ev y)) := by
    first | rfl | simp only [opR]
  rw [h]; cases (maxD (st.ev x) (st.ev y)) <;> rfl
@[go_sem] theorem awpL_min {x y : Operand} {tys : Array TypeId} : awpL P own ops (⟨dst, .call ⟨.builtin .min, #[x, y], tys⟩, ty, pos, aft, none⟩ :: rest) K st = stepO (minD (st.ev x) (st.ev y)) (awpL P own ops) rest K st dst := by
  show (match opR P own ⟨dst, .call ⟨.builtin .min, #[x, y], tys⟩, ty, pos, aft, none⟩ st with | some (d, H, nx) => awpL P own ops rest K ({ st with H := H, nx := nx }.put dst d) | none => False) = _
  have h : opR P own ⟨dst, .call ⟨.builtin .min, #[x, y], tys⟩, ty, pos, aft, none⟩ st = st.keep (minD (st.ev x) (st.ev y)) := by
    first | rfl | simp only [opR]
  rw [h]; cases (minD (st.ev x) (st.ev y)) <;> rfl
@[go_sem] theorem awpD_min {x y : Operand} {tys : Array TypeId} : awpD P own ops (⟨dst, .call ⟨.builtin .min, #[x, y], tys⟩, ty, pos, aft, none⟩ :: rest) K st = stepO (minD (st.ev x) (st.ev y)) (awpD P own ops) rest K st dst := by
  show (match opR P own ⟨dst, .call ⟨.builtin .min, #[x, y], tys⟩, ty, pos, aft, none⟩ st with | some (d, H, nx) => awpD P own ops rest K ({ st with H := H, nx := nx }.put dst d) | none => False) = _
  have h : opR P own ⟨dst, .call ⟨.builtin .min, #[x, y], tys⟩, ty, pos, aft, none⟩ st = st.keep (minD (st.ev x) (st.ev y)) := by
    first | rfl | simp only [opR]
  rw [h]; cases (minD (st.ev x) (st.ev y)) <;> rfl
@[go_sem] theorem awpL_append {x y : Operand} {t : TypeId} : awpL P own ops (⟨dst, .call ⟨.builtin .append, #[x, y], #[t, t]⟩, ty, pos, aft, none⟩ :: rest) K st = step3 (appendG P own dst st t (st.ev x) (st.ev y)) (awpL P own ops) rest K st dst := by
  show (match opR P own ⟨dst, .call ⟨.builtin .append, #[x, y], #[t, t]⟩, ty, pos, aft, none⟩ st with | some (d, H, nx) => awpL P own ops rest K ({ st with H := H, nx := nx }.put dst d) | none => False) = _
  have h : opR P own ⟨dst, .call ⟨.builtin .append, #[x, y], #[t, t]⟩, ty, pos, aft, none⟩ st = appendG P own dst st t (st.ev x) (st.ev y) := by
    simp only [opR, if_true, appendG, St.keep]
  rw [h]; cases (appendG P own dst st t (st.ev x) (st.ev y)) <;> rfl
@[go_sem] theorem awpD_append {x y : Operand} {t : TypeId} : awpD P own ops (⟨dst, .call ⟨.builtin .append, #[x, y], #[t, t]⟩, ty, pos, aft, none⟩ :: rest) K st = stepK (okP own dst st (st.ev x)) (step3 (appendG P own dst st t (st.ev x) (st.ev y)) (awpD P own ops) rest K st dst) := by
  show (match opR P own ⟨dst, .call ⟨.builtin .append, #[x, y], #[t, t]⟩, ty, pos, aft, none⟩ st with | some (d, H, nx) => stepK (okP own dst st (st.ev x)) (awpD P own ops rest K ({ st with H := H, nx := nx }.put dst d)) | none => False) = _
  have h : opR P own ⟨dst, .call ⟨.builtin .append, #[x, y], #[t, t]⟩, ty, pos, aft, none⟩ st = appendG P own dst st t (st.ev x) (st.ev y) := by
    simp only [opR, if_true, appendG, St.keep]
  rw [h]; cases (appendG P own dst st t (st.ev x) (st.ev y)) <;> first | exact (stepK_not _).symm | rfl
def callW (P : Program) (f : D) (args : List D) (g : List Oper → (St → Prop) → St → Prop) (rest : List Oper) (K : St → Prop) (st : St) (dst : Option Nat) : Prop :=
  match f with | .fn n cap => AC P n (args ++ cap) st.H st.nx fun r H nx => g rest K ((st.withH H nx).put dst r) | _ => False
def callD (P : Program) (own : List Nat) (f : D) (args : List D) (g : List Oper → (St → Prop) → St → Prop) (rest : List Oper) (K : St → Prop) (st : St) (dst : Option Nat) : Prop :=
  match f with | .fn n cap => (isMark 5000000 own dst = false ∧ ∃ r, RC P n (args ++ cap) st.H st.nx r ∧ g rest K (st.put dst r)) ∨
      (isMark 5000000 own dst = true ∧ ∃ r, (∀ H nx, RC P n (args ++ cap) H nx r) ∧ g rest K (st.put dst r)) ∨
      (isMark 5000000 own dst = false ∧ isMark 4000000 own dst = true ∧ ∃ d H nx, AC P n (args ++ cap) st.H st.nx (fun r' H' nx' => r' = d ∧ H' = H ∧ nx' = nx) ∧ SameB st H nx ∧ g rest K ((st.withH H nx).put dst d)) | _ => False
@[go_sem] theorem awpL_call {f : Operand} {args : Array Operand} {tys : Array TypeId} : awpL P own ops (⟨dst, .call ⟨.value f, args, tys⟩, ty, pos, aft, none⟩ :: rest) K st = callW P (st.ev f) (args.toList.map st.ev) (awpL P own ops) rest K st dst := rfl
@[go_sem] theorem awpD_call {f : Operand} {args : Array Operand} {tys : Array TypeId} : awpD P own ops (⟨dst, .call ⟨.value f, args, tys⟩, ty, pos, aft, none⟩ :: rest) K st = callD P own (st.ev f) (args.toList.map st.ev) (awpD P own ops) rest K st dst := rfl
variable {n : FuncId} {cap args : List D} {g : List Oper → (St → Prop) → St → Prop}
theorem callW_ac (h : AC P n (args ++ cap) st.H st.nx fun r H nx => g rest K ((st.withH H nx).put dst r)) : callW P (.fn n cap) args g rest K st dst := h
theorem callW_rc {r : D} (h : RC P n (args ++ cap) st.H st.nx r) (hk : g rest K (st.put dst r)) : callW P (.fn n cap) args g rest K st dst := callW_ac (RC.ac h hk)
theorem zqs {r : D} (h : PC P n (args ++ cap) r) (hk : g rest K (st.put dst r)) : callW P (.fn n cap) args g rest K st dst := callW_ac (RC.ac (h.rc st.H st.nx) hk)
theorem zqt {r : D} (h : PC P n (args ++ cap) r) (hk : g rest K (st.put dst r)) : callD P own (.fn n cap) args g rest K st dst := by
  cases h0 : isMark 5000000 own dst with
  | false => exact .inl ⟨h0, r, h.rc st.H st.nx, hk⟩
  | true => exact .inr (.inl ⟨h0, r, fun H nx => h.rc H nx, hk⟩)
end
end Go.Proofs.YtkhjpcmpljpmjaaGreatDoor.Abs
