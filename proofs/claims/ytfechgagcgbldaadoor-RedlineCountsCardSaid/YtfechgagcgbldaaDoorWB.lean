import Derived.Test.YtfechgagcgbldaaDoorWA
import Derived.Orders
/-
 Lemmas of the claim. No condition but those that each names.
-/
set_option linter.unusedSimpArgs false
set_option linter.unusedVariables false
set_option linter.unusedSectionVars false
namespace Go.Proofs.YtfechgagcgbldaaDoor.Abs
open Go.RowKit
variable {P : Program}

theorem z3o {s : RS} {w : World} {x : Sem Value} {d : D} (h : RH P s w) (hr : ∃ u, x.run P w = .ok u w /\ rel s d u) : Ran P s w (do pure (.value (<- x))) d s.H s.nx := by
 obtain ⟨u, h1, h2⟩ := hr
 exact zoy h h1 h2
theorem z3v {s : RS} {w : World} {x : Sem Value} {d : D} {H : HM} {nx : Nat} (hr : ∃ v s' w', x.run P w = .ok v w' /\ Step s w s' w' /\ RH P s' w' /\ s'.H = H /\ s'.nx = nx /\ rel s' d v) :
  Ran P s w (do pure (.value (<- x))) d H nx := by
 obtain ⟨v, s', w', h1, h2, h3, h4, h5, h6⟩ := hr
 exact ⟨v, s', w', .inl (by simp [h1]), h2, h3, h4, h5, h6⟩

theorem zrv {s : RS} {w : World} (h : RH P s w) {e : TypeId} {d : D} {v : Value} {cs : List D} (hc : z3m d = some cs) (hv : rel s d v) :
  ∃ u s' w', (Instr.box e v).run P w = .ok u w' /\ Step s w s' w' /\ RH P s' w' /\ s'.H = z0u s.H s.nx (some (.box e cs)) /\ s'.nx = s.nx + 1 /\ rel s' (.ptr s.nx 0) u := by
 obtain ⟨h1, h2⟩ := z7c hv hc
 have hl := z99 h (.pointer (some ⟨w.heap.size, 0, none⟩)) (.box e cs)
 obtain ⟨h3, h4⟩ := z4c h (Grew.alloc w (.cells v.cells e)) (.box e cs) (.pointer (some ⟨w.heap.size, 0, none⟩)) (fun b hb => by simp only [blockOf, Option.some.injEq] at hb; omega)
  ⟨w.heap.size, v.cells.toList, rfl, by simpa using heap_alloc_new w (.cells v.cells e), relAll.later hl _ _ h1, h2⟩
 refine ⟨.pointer (some ⟨w.heap.size, 0, none⟩), _, _, ?_, h3, h4, rfl, rfl, ?_⟩
 ·simp [Instr.box, newVar, newRow]
 ·simp only [rel]
  refine ⟨by simp [RS.add], ⟨_, rfl⟩, fun e' cs' hH => ⟨w.heap.size, by simp [RS.add], rfl⟩⟩

theorem zko {s : RS} {w : World} (h : RH P s w) {e : TypeId} {zs : List D} (hz : z11 P e = some zs) :
  ∃ u s' w', (Instr.alloc e true (.tuple #[])).run P w = .ok u w' /\ Step s w s' w' /\ RH P s' w' /\ s'.H = z0u s.H s.nx (some (.box e zs)) /\ s'.nx = s.nx + 1 /\ rel s' (.ptr s.nx 0) u := by
 obtain ⟨z, hzr, hzrel, hzo, _⟩ := z9y hz
 obtain ⟨h3, h4⟩ := z4c h (Grew.alloc w (.cells z.cells e)) (.box e zs) (.pointer (some ⟨w.heap.size, 0, none⟩)) (fun b hb => by simp only [blockOf, Option.some.injEq] at hb; omega)
  ⟨w.heap.size, z.cells.toList, rfl, by simpa using heap_alloc_new w (.cells z.cells e), hzrel _, hzo⟩
 refine ⟨.pointer (some ⟨w.heap.size, 0, none⟩), _, _, ?_, h3, h4, rfl, rfl, ?_⟩
 ·simp [Instr.alloc, hzr, newVar, newRow]
 ·simp only [rel]
  refine ⟨by simp [RS.add], ⟨_, rfl⟩, fun e' cs' hH => ⟨w.heap.size, by simp [RS.add], rfl⟩⟩

theorem zc5 {s : RS} {w : World} (h : RH P s w) {t e : TypeId} {len : Nat} {vparts : Array (Nat × Value)} {els cs : List D} {vs : List Value} (he : z0p P t = some e) (hsz : z00 P e ≠ 0)
  (hle : len * z00 P e <= 2 ^ 24) (hz : len = 0 \/ z0d P e = true) (hp : vparts.toList = (List.range len).zip vs) (hl : vs.length = len) (hr : relAll s els vs) (hcs : z1i (z00 P e) els = some cs) :
  (∃ u s' w', (Instr.buildSlice t len vparts).run P w = .ok u w' /\ Step s w s' w' /\ RH P s' w' /\ s'.H = z0u s.H s.nx (some (.row e len cs)) /\ s'.nx = s.nx + 1 /\ rel s' (.osl s.nx len) u) /\
  (∃ u s' w', (Instr.buildSlice t len vparts).run P w = .ok u w' /\ Step s w s' w' /\ RH P s' w' /\ s'.H = s.H /\ s'.nx = s.nx /\ rel s' (.rsl true (z00 P e) els) u /\ ∃ a, u = .slice (some a) len len) := by
 obtain ⟨h1, h2, h3⟩ := z7m hcs hr
 have hrun := zeh (w := w) (z1s he) hsz hle hz hp hl h3
 have hfl := z92 h3
 have hmax : len <= maxLen := by
  have : len <= len * z00 P e := Nat.le_mul_of_pos_right _ (Nat.pos_of_ne_zero hsz)
  simp only [maxLen]; omega
 constructor
 ·have hla := z99 h (.slice (some ⟨w.heap.size, 0, none⟩) len len) (.row e len cs)
  obtain ⟨h4, h5⟩ := z4c h (Grew.alloc w (.cells (vs.flatMap (·.cells.toList)).toArray e)) (.row e len cs) (.slice (some ⟨w.heap.size, 0, none⟩) len len)
   (fun b hb => by simp only [blockOf, Option.some.injEq] at hb; omega)
   ⟨vs.flatMap (·.cells.toList), ⟨by rw [hfl, hl], .inr ⟨w.heap.size, len, _, rfl, Nat.zero_le _, heap_alloc_new w _, Nat.le_refl _, hmax, by simp only [List.size_toArray]; rw [hfl, hl], by
    rw [List.take_of_length_le (by rw [List.toList_toArray, hfl, hl]; exact Nat.le_refl _)]⟩⟩, relAll.later hla _ _ h1, h2⟩
  refine ⟨_, _, _, hrun, h4, h5, rfl, rfl, ?_⟩
  simp only [rel]
  refine ⟨by simp [RS.add], ⟨_, _, rfl⟩, fun e' k cs' hH => ?_⟩
  simp only [RS.add, z0u, if_true, Option.some.injEq, HObj.row.injEq] at hH
  obtain ⟨_, rfl, _⟩ := hH
  exact ⟨Nat.le_refl _, fun _ => by simp [RS.add]⟩
 ·obtain ⟨h4, h5⟩ := z7b h (Grew.alloc w (.cells (vs.flatMap (·.cells.toList)).toArray e))
  refine ⟨_, _, _, hrun, h4, h5, rfl, rfl, ?_⟩
  refine ⟨?_, ⟨_, rfl⟩⟩
  simp only [rel]
  have hlen := z01 hr
  refine .inr ⟨⟨w.heap.size, 0, none⟩, len, vs, by rw [<- hlen, hl], by omega, hmax, relAll.later h4.later _ _ hr, fun i v hv => ⟨h3 v (List.mem_of_getElem? hv), fun j c hj => ?_⟩⟩
  rw [z0o, z0o, Nat.zero_add]
  simp only [RS.grow]
  rw [if_neg (by simp), World.cell?_alloc_new]
  simpa using zh2 h3 i v j c hv hj

theorem zbo (ρ : Operand -> Value) : ∀ (parts : List (Nat × Operand)) (l : List Nat), parts.map (·.1) = l -> parts.map (fun x => (x.1, ρ x.2)) = l.zip (parts.map fun x => ρ x.2)
 | [], l, h => by subst h; rfl
 | p :: ps, l, h => by
  subst h
  simp only [List.map_cons, List.zip_cons_cons, List.cons.injEq, true_and]
  exact zbo ρ ps _ rfl

theorem zkp {s : RS} {w : World} {c a b d : D} {vc va vb : Value} (V : zeb c a b = some d) (hc : rel s c vc) (ha : rel s a va) (hb : rel s b vb) :
  ∃ u, (do pure (if <- asBool vc then va else vb) : Sem Value).run P w = .ok u w /\ rel s d u := by
 unfold zeb at V
 split at V
 ·rename_i t
  simp only [rel] at hc; subst hc
  split at V
  ·rename_i x y
   cases V
   simp only [rel] at ha hb; subst ha; subst hb
   cases t
   ·exact ⟨.bool y, by simp [asBool], by simp [rel]⟩
   ·exact ⟨.bool x, by simp [asBool], by simp [rel]⟩
  ·cases V
   cases t
   ·exact ⟨vb, by simp [asBool], by simpa using hb⟩
   ·exact ⟨va, by simp [asBool], by simpa using ha⟩
 ·cases V

theorem zrw {w : World} {vc va vb : Value} : (do pure (.value (if <- asBool vc then va else vb)) : Sem Next).run P w =
  ((do pure (if <- asBool vc then va else vb) : Sem Value).run P w).andThen fun v w' => .ok (.value v) w' := by
 cases vc <;> simp [asBool]
theorem zo0 {s : RS} {w : World} {ts : Array TypeId} {ty : TypeId} {x y d : D} {vx vy : Value} (V : zt3 x y = some d) (hx : rel s x vx) (hy : rel s y vy) : ∃ u, (Builtin.max_ ts ty #[vx, vy]).run P w = .ok u w /\ rel s d u := by
 unfold zt3 at V
 split at V <;> first | (cases V; done) | skip
 cases V
 simp only [rel] at hx hy; subst hx; subst hy
 have e : ∀ a b : Int, max a b = if b > a then b else a := fun a b => by split <;> omega
 exact ⟨_, by simp [Builtin.max_, Builtin.max2]; rfl, by simp only [rel, e]⟩
theorem zo1 {s : RS} {w : World} {ts : Array TypeId} {ty : TypeId} {x y d : D} {vx vy : Value} (V : minD x y = some d) (hx : rel s x vx) (hy : rel s y vy) : ∃ u, (Builtin.min_ ts ty #[vx, vy]).run P w = .ok u w /\ rel s d u := by
 unfold minD at V
 split at V <;> first | (cases V; done) | skip
 cases V
 simp only [rel] at hx hy; subst hx; subst hy
 have e : ∀ a b : Int, min a b = if b < a then b else a := fun a b => by split <;> omega
 exact ⟨_, by simp [Builtin.min_, Builtin.min2]; rfl, by simp only [rel, e]⟩

theorem zj4 {ρ : Operand -> Value} {c : Call} {b : Builtin} (h : c.callee = .builtin b) (ty : TypeId) :
  ∃ consts, (do let d <- resolve ρ c ty; invoke d.target d.args : Sem Next) = builtin b c.argTypes ty consts (c.args.map ρ) := by
 unfold resolve
 rw [h]
 exact ⟨_, rfl⟩

theorem zdt : ∀ (is : List Nat) (k n : Nat), z5r is k n = true -> is = List.range' k (n - k)
 | [], k, n, h => by
  simp only [z5r, beq_iff_eq] at h; subst h; simp
 | i :: is, k, n, h => by
  simp only [z5r, Bool.and_eq_true, beq_iff_eq] at h
  obtain ⟨rfl, h⟩ := h
  have ih := zdt is (i + 1) n h
  have hlt : i < n := by
   have key : ∀ (l : List Nat) (a b : Nat), z5r l a b = true -> a <= b := by
    intro l
    induction l with
    | nil => intro a b hh; simp only [z5r, beq_iff_eq] at hh; omega
    | cons x l ihl =>
     intro a b hh
     simp only [z5r, Bool.and_eq_true] at hh
     have := ihl _ _ hh.2; omega
   have := key is (i + 1) n h; omega
  have : n - i = (n - (i + 1)) + 1 := by omega
  rw [this, List.range'_succ, <- ih]

set_option maxHeartbeats 2000000 in
theorem zrx {own : List Nat} {o : Oper} {st : St} {s : RS} {a : Act} {w : World} (hev : ∀ x, rel s (st.ev x) (a.eval x)) (hH : s.H = st.H) (hnx : s.nx = st.nx) (h : RH P s w)
  {d : D} {H : HM} {nx : Nat} (V : opR P own o st = some (d, H, nx)) : Ran P s w (execOp a.eval o) d H nx := by
 obtain ⟨st_t, st_H, st_nx⟩ := st
 simp only at hH hnx
 subst hH; subst hnx
 generalize hst : (⟨st_t, s.H, s.nx⟩ : St) = st at V hev
 have hstH : st.H = s.H := by rw [<- hst]
 have hstn : st.nx = s.nx := by rw [<- hst]
 have done : ∀ {d0 : Option D}, st.keep d0 = some (d, H, nx) -> d0 = some d /\ H = s.H /\ nx = s.nx := by
  intro d0 h0
  simp only [St.keep, Option.map_eq_some_iff, Prod.mk.injEq] at h0
  obtain ⟨d1, h1, rfl, rfl, rfl⟩ := h0
  exact ⟨h1, hstH, hstn⟩
 unfold opR at V
 unfold execOp
 split at V
 ·-- move
  rename_i x hop
  simp only [Option.some.injEq, Prod.mk.injEq] at V
  obtain ⟨rfl, rfl, rfl⟩ := V
  rw [hop, hstH, hstn]
  exact z6l h rfl (hev x)
 ·-- assign
  rename_i x hop
  rw [hop]
  split at V
  ·rename_i hnil
   have hv := hev x
   rw [hnil] at hv
   split at V
   ·simp only [Option.map_eq_some_iff, Prod.mk.injEq] at V
    obtain ⟨e, he, rfl, rfl, rfl⟩ := V
    simp only [rel] at hv
    obtain ⟨h3, h4⟩ := z4c h (Grew.refl w) (.row e 0 []) (.slice none 0 0) (fun b hb => by cases hb) ⟨[], World.ownsRow_nil w 0 e _, z0h, zfv⟩
    refine ⟨.slice none 0 0, _, w, .inl (by simp [hv]), h3, h4, by simp [RS.add, hstH, hstn], by simp [RS.add, hstn], ?_⟩
    rw [hstn]
    simp only [rel]
    refine ⟨by simp [RS.add], ⟨_, _, rfl⟩, fun e' k cs hH => ?_⟩
    simp only [RS.add, z0u, if_true, Option.some.injEq, HObj.row.injEq] at hH
    obtain ⟨_, rfl, _⟩ := hH
    exact ⟨Nat.le_refl _, fun _ => by simp [RS.add]⟩
   ·simp only [Option.some.injEq, Prod.mk.injEq] at V
    obtain ⟨rfl, rfl, rfl⟩ := V
    rw [hstH, hstn]
    exact z6l h rfl hv
  ·simp only [Option.some.injEq, Prod.mk.injEq] at V
   obtain ⟨rfl, rfl, rfl⟩ := V
   rw [hstH, hstn]
   exact z6l h rfl (hev x)
 ·-- pick
  rename_i c x y hop
  obtain ⟨hd1, rfl, rfl⟩ := done V
  rw [hop]
  obtain ⟨u, h1, h2⟩ := zkp (P := P) (w := w) hd1 (hev c) (hev x) (hev y)
  refine z6l h ?_ h2
  have h3 := zrw (P := P) (w := w) (vc := a.eval c) (va := a.eval x) (vb := a.eval y)
  rw [h1] at h3
  exact h3
 ·-- alloc
  rename_i e hop
  rw [hop]
  simp only [Option.map_eq_some_iff, Prod.mk.injEq] at V
  obtain ⟨zs, hz, rfl, rfl, rfl⟩ := V
  rw [hstH, hstn]
  exact z3v (zko h hz)
 ·-- box
  rename_i e x hop
  rw [hop]
  simp only [Option.map_eq_some_iff, Prod.mk.injEq] at V
  obtain ⟨cs, hc, rfl, rfl, rfl⟩ := V
  rw [hstH, hstn]
  exact z3v (zrv h hc (hev x))
 ·-- build
  rename_i t parts hop
  rw [hop]
  obtain ⟨hd1, rfl, rfl⟩ := done V
  refine z3o h (zkk hd1 ?_)
  rw [Array.toList_map]
  exact zdg a.eval st.ev hev parts.toList
 ·-- buildSlice
  rename_i t len parts hop
  rw [hop]
  split at V
  ·rename_i e he
   simp only at V
   split at V
   ·rename_i hc
    obtain ⟨hsz, hpl0, hle, hz⟩ := hc
    have hpl := zdt _ _ _ hpl0
    rw [Nat.sub_zero, <- List.range_eq_range'] at hpl
    simp only [Option.bind_eq_some_iff] at V
    obtain ⟨cs, hcs, V⟩ := V
    have hr : relAll s (parts.toList.map fun x => st.ev x.2) (parts.toList.map fun x => a.eval x.2) := by
     have hr := z4s (s := s) (fun x => a.eval x) st.ev hev (parts.toList.map (·.2))
     simp only [List.map_map] at hr
     exact hr
    have hlen : (parts.toList.map (fun x => a.eval x.2)).length = len := by
     have := congrArg List.length hpl
     simpa using this
    have hb := zc5 (P := P) (len := len) (vparts := parts.map fun (i, x) => (i, a.eval x)) (els := parts.toList.map fun x => st.ev x.2) (vs := parts.toList.map fun x => a.eval x.2) h he hsz hle hz
     (by rw [Array.toList_map]; exact zbo a.eval parts.toList _ hpl) hlen hr hcs
    split at V
    ·simp only [Option.some.injEq, Prod.mk.injEq] at V
     obtain ⟨rfl, rfl, rfl⟩ := V
     rw [hstH, hstn]
     exact z3v hb.1
    ·obtain ⟨u, s', w', b1, b2, b3, b4, b5, b6, b7⟩ := hb.2
     split at V
     ·rename_i hmk
      simp only [Option.some.injEq, Prod.mk.injEq] at V
      obtain ⟨rfl, rfl, rfl⟩ := V
      rw [hstH, hstn]
      obtain ⟨_, rfl⟩ := hmk
      exact z3v ⟨u, s', w', b1, b2, b3, b4, b5, by simpa only [rel] using b7⟩
     ·simp only [Option.some.injEq, Prod.mk.injEq] at V
      obtain ⟨rfl, rfl, rfl⟩ := V
      rw [hstH, hstn]
      exact z3v ⟨u, s', w', b1, b2, b3, b4, b5, b6⟩
   ·cases V
  ·cases V
 ·-- load
  rename_i t p hop
  rw [hop]
  obtain ⟨hd1, rfl, rfl⟩ := done V
  have hd1 := zmz hd1
  rw [hstH] at hd1
  exact z3o h (zeo h hd1 (hev p))
 ·-- store
  rename_i t p v hop
  rw [hop]
  simp only [Option.map_eq_some_iff, Prod.mk.injEq] at V
  obtain ⟨H', V, rfl, rfl, rfl⟩ := V
  rw [hstH] at V
  obtain ⟨s', w', h1, h2, h3, h4, h5⟩ := zjv h V (hev p) (hev v)
  exact ⟨undef, s', w', .inr ⟨by simp [h1], rfl⟩, h2, h3, h4, by rw [h5, hstn], by simp [rel]⟩
 ·-- binOp
  rename_i op t x y ty hop
  rw [hop]
  obtain ⟨hd1, rfl, rfl⟩ := done V
  exact z3o h (znu hd1 (hev x) (hev y))
 ·-- unOp
  rename_i op t x hop
  rw [hop]
  obtain ⟨hd1, rfl, rfl⟩ := done V
  exact z3o h (zrn hd1 (hev x))
 ·-- convert
  rename_i src dst x hop
  rw [hop]
  obtain ⟨hd1, rfl, rfl⟩ := done V
  unfold zn0 at hd1
  split at hd1
  ·rename_i ks k k' n hks O hx
   simp only [Option.some.injEq] at hd1
   subst hd1
   have hv := hev x
   rw [hx] at hv
   simp only [rel] at hv
   have hu := zds O
   refine z3o h ⟨.int k (k.wrap n), ?_, by simp [rel]⟩
   have hsu := zds hks
   simp only [hv, convert, Sem.run_bind, run_underlying hsu, run_underlying hu, Result.andThen_ok]
   rfl
  ·exact z3v (zkn h hd1 (hev x))
 ·-- makeFunc
  rename_i fn first cap hop
  rw [hop]
  split at V
  ·rename_i f
   split at V
   ·rename_i hf
    simp only [Option.some.injEq, Prod.mk.injEq] at V
    obtain ⟨rfl, rfl, rfl⟩ := V
    rw [hstH, hstn]
    have hf0 : first = #[] := Array.eq_empty_of_size_eq_zero hf
    subst hf0
    refine z3o h ⟨.func (.func f) #[] (cap.map a.eval), by simp [Instr.makeFunc], ?_⟩
    simp only [rel]
    exact ⟨(cap.toList.map a.eval), by rw [<- Array.toList_map, Array.toArray_toList], z4s (fun x => a.eval x) st.ev hev cap.toList⟩
   ·split at V
    ·rename_i hf
     simp only [Option.some.injEq, Prod.mk.injEq] at V
     obtain ⟨rfl, rfl, rfl⟩ := V
     rw [hstH, hstn]
     have hf0 : cap = #[] := Array.eq_empty_of_size_eq_zero hf
     subst hf0
     refine z3o h ⟨.func (.func f) (first.map a.eval) #[], by simp [Instr.makeFunc], ?_⟩
     simp only [rel]
     exact ⟨(first.toList.map a.eval), by rw [<- Array.toList_map, Array.toArray_toList], z4s (fun x => a.eval x) st.ev hev first.toList⟩
    ·cases V
  ·cases V
 ·-- makeMap
  rename_i t hop
  rw [hop]
  simp only [Option.map_eq_some_iff, Prod.mk.injEq] at V
  obtain ⟨kt, _, rfl, rfl, rfl⟩ := V
  rw [hstH, hstn]
  exact z3v (zh6 h t)
 ·-- range
  rename_i t x hop
  rw [hop]
  simp only [Option.map_eq_some_iff, Prod.mk.injEq] at V
  obtain ⟨q, hq, rfl, rfl, rfl⟩ := V
  rw [hstH, hstn]
  exact z3v (zkm h hq (hev x))
 ·-- next
  rename_i x b hop
  rw [hop]
  rw [hstH, hstn] at V
  exact z3v (znz h V (hev x))
 ·-- lookup
  rename_i t x k ok hop
  rw [hop]
  obtain ⟨hd1, rfl, rfl⟩ := done V
  rw [hstH] at hd1
  exact z3o h (zj2 h hd1 (hev x) (hev k))
 ·-- mapUpdate
  rename_i t m k x hop
  rw [hop]
  simp only [Option.map_eq_some_iff, Prod.mk.injEq] at V
  obtain ⟨H', V, rfl, rfl, rfl⟩ := V
  rw [hstH] at V
  obtain ⟨s', w', h1, h2, h3, h4, h5⟩ := zbn h V (hev m) (hev k) (hev x)
  exact ⟨undef, s', w', .inr ⟨by simp [h1], rfl⟩, h2, h3, h4, by rw [h5, hstn], by simp [rel]⟩
 ·-- insert
  rename_i t m k x hop
  rw [hop]
  simp only [Option.map_eq_some_iff, Prod.mk.injEq] at V
  obtain ⟨H', V, rfl, rfl, rfl⟩ := V
  rw [hstH] at V
  obtain ⟨s', w', h1, h2, h3, h4, h5⟩ := zbn h V (hev m) (hev k) (hev x)
  exact ⟨undef, s', w', .inr ⟨by simp [h1], rfl⟩, h2, h3, h4, by rw [h5, hstn], by simp [rel]⟩
 ·-- makeSlice
  rename_i t l c hop
  rw [hop]
  split at V
  ·rename_i e k l' k' c' he hl hc
   split at V
   ·rename_i hcond
    obtain ⟨rfl, h0, hb, h63, hpos⟩ := hcond
    simp only [Option.map_eq_some_iff, Prod.mk.injEq] at V
    obtain ⟨zs, hz, rfl, rfl, rfl⟩ := V
    have hvl := hev l
    have hvc := hev c
    rw [hl] at hvl
    rw [hc] at hvc
    simp only [rel] at hvl hvc
    rw [hstH, hstn]
    simp only [hvl, hvc]
    exact z3v (znv h he hz h0 hb h63 hpos)
   ·cases V
  ·cases V
 ·-- slice
  rename_i t x lo hi mx hop
  rw [hop]
  split at V
  ·obtain ⟨hd1, rfl, rfl⟩ := done V
   refine z3o h (zjy hd1 (hev x) ?_ ?_ ?_ ?_)
   ·intro d hdd
    cases lo with
    | none => cases hdd
    | some y => simp only [Option.map_some, Option.some.injEq] at hdd; subst hdd; exact ⟨_, rfl, hev y⟩
   ·intro hn; cases lo <;> first | rfl | cases hn
   ·intro d hdd
    cases hi with
    | none => cases hdd
    | some y => simp only [Option.map_some, Option.some.injEq] at hdd; subst hdd; exact ⟨_, rfl, hev y⟩
   ·intro hn; cases hi <;> first | rfl | cases hn
  ·rename_i m
   obtain ⟨hd1, rfl, rfl⟩ := done V
   refine z3o h (zhu hd1 (hev x) ?_ ?_ (hev m))
   ·intro hn; cases lo <;> first | rfl | cases hn
   ·intro d hdd
    cases hi with
    | none => cases hdd
    | some y => simp only [Option.map_some, Option.some.injEq] at hdd; subst hdd; exact ⟨_, rfl, hev y⟩
 ·-- fieldAddr
  rename_i t x f hop
  rw [hop]
  obtain ⟨hd1, rfl, rfl⟩ := done V
  exact z3o h (zcu h hd1 (hev x))
 ·-- field
  rename_i t x f hop
  rw [hop]
  split at V
  ·rename_i o' ft ds hf hx
   obtain ⟨hd1, rfl, rfl⟩ := done V
   have hv := hev x
   rw [hx] at hv
   exact z3o h (zjx hf hd1 hv)
  ·cases V
 ·-- indexAddr
  rename_i t x i hop
  rw [hop]
  obtain ⟨hd1, rfl, rfl⟩ := done V
  rw [hstH] at hd1
  have hd1 := zcq hd1
  exact z3o h (zcw h hd1 (hev x) (hev i))
 ·-- index
  rename_i t x i hop
  rw [hop]
  obtain ⟨hd1, rfl, rfl⟩ := done V
  exact z3o h (zjw hd1 (hev x) (hev i))
 ·-- extract
  rename_i x i hop
  rw [hop]
  split at V
  ·rename_i ds hx
   obtain ⟨hd1, rfl, rfl⟩ := done V
   have hv := hev x
   rw [hx] at hv
   simp only [rel] at hv
   obtain ⟨vs, hvs, hr⟩ := hv
   obtain ⟨u, hu, hru⟩ := z1b hr _ _ hd1
   exact z3o h ⟨u, by simp [Instr.extract, hvs, hu], hru⟩
  ·cases V
 ·-- nilCheck
  rename_i x hop
  rw [hop]
  split at V
  ·rename_i d' hx
   simp only [Option.some.injEq, Prod.mk.injEq] at V
   obtain ⟨rfl, rfl, rfl⟩ := V
   have hv := hev x
   rw [hx] at hv
   have hv' := hv
   simp only [rel] at hv'
   obtain ⟨ad, u, hvu, _⟩ := hv'
   rw [hstH, hstn]
   refine z6l h ?_ hv
   simp [hvu]
  ·rename_i id off hx
   simp only [Option.some.injEq, Prod.mk.injEq] at V
   obtain ⟨rfl, rfl, rfl⟩ := V
   have hv := hev x
   rw [hx] at hv
   have hv' := hv
   simp only [rel] at hv'
   obtain ⟨_, ⟨ad, hvu⟩, _⟩ := hv'
   rw [hstH, hstn]
   refine z6l h ?_ hv
   simp [hvu]
  ·cases V
 ·-- call
  rename_i c hop
  rw [hop]
  split at V
  ·rename_i b hcal
   obtain ⟨consts, hcb⟩ := zj4 (ρ := a.eval) hcal o.type
   simp only [hcb]
   split at V
   ·rename_i x t hargs htys
    obtain ⟨hd1, rfl, rfl⟩ := done V
    rw [hstH] at hd1
    have hd1 := zox hd1
    have ha : c.args = #[x] := by rw [<- Array.toArray_toList (xs := c.args), hargs]
    have ht : c.argTypes = #[t] := by rw [<- Array.toArray_toList (xs := c.argTypes), htys]
    rw [ha, ht]
    have hm : Array.map a.eval #[x] = #[a.eval x] := by simp
    rw [hm]
    exact z3o h (znt h hd1 (hev x))
   ·rename_i tys x y hargs
    obtain ⟨hd1, rfl, rfl⟩ := done V
    have ha : c.args = #[x, y] := by rw [<- Array.toArray_toList (xs := c.args), hargs]
    rw [ha]
    have hm : Array.map a.eval #[x, y] = #[a.eval x, a.eval y] := by simp
    rw [hm]
    exact z3o h (zo0 hd1 (hev x) (hev y))
   ·rename_i tys x y hargs
    obtain ⟨hd1, rfl, rfl⟩ := done V
    have ha : c.args = #[x, y] := by rw [<- Array.toArray_toList (xs := c.args), hargs]
    rw [ha]
    have hm : Array.map a.eval #[x, y] = #[a.eval x, a.eval y] := by simp
    rw [hm]
    exact z3o h (zo1 hd1 (hev x) (hev y))
   ·rename_i x y t u hargs htys
    split at V
    ·rename_i htu
     subst htu
     rw [hstH, hstn] at V
     have ha : c.args = #[x, y] := by rw [<- Array.toArray_toList (xs := c.args), hargs]
     have ht : c.argTypes = #[t, t] := by rw [<- Array.toArray_toList (xs := c.argTypes), htys]
     rw [ha, ht]
     have hm : Array.map a.eval #[x, y] = #[a.eval x, a.eval y] := by simp
     rw [hm]
     split at V
     ·obtain ⟨hd1, rfl, rfl⟩ := done V
      exact z3v (zh5 (ty := o.type) h hd1 (hev x) (hev y))
     ·split at V
      ·simp only [Option.bind_eq_some_iff] at V
       obtain ⟨⟨d1, H1, nx1⟩, hd1, hd2⟩ := V
       obtain ⟨v, s1, w1, a1, a2, a3, a4, a5, a6⟩ := zbj (ty := o.type) h hd1 (hev x) (hev y)
       obtain ⟨s2, c1, c2, c3, c4, c5, _⟩ := zdl a3 a4 a5 a6 hd2
       exact z3v ⟨v, s2, w1, a1, a2.trans c1, c2, c3, c4, c5⟩
      ·exact z3v (zbj h V (hev x) (hev y))
    ·cases V
   ·cases V
  ·cases V
 ·cases V

end Go.Proofs.YtfechgagcgbldaaDoor.Abs
namespace Go.Proofs.YtfechgagcgbldaaDoor.Abs
open Go.RowKit
variable {P : Program}

def zm6 (P : Program) (f : FuncId) : Prop := ∃ fn, P.funcs[f]? = some fn /\ (fn.name == "runtime.NumGoroutine") = false /\ fn.body.isNone = false

def AC (P : Program) (f : FuncId) (ds : List D) (H : HM) (nx : Nat) (K : D -> HM -> Nat -> Prop) : Prop :=
 zm6 P f /\ ∀ (s : RS) (w : World) (vs : List Value), s.H = H -> s.nx = nx -> RH P s w -> relAll s ds vs ->
  Calls P f vs.toArray w fun e w' => ∃ v r s', e = .returned v /\ K r s'.H s'.nx /\ Step s w s' w' /\ RH P s' w' /\ rel s' r v
theorem AC.mono {f : FuncId} {ds : List D} {H : HM} {nx : Nat} {K K' : D -> HM -> Nat -> Prop} (h : AC P f ds H nx K) (O : ∀ r H nx, K r H nx -> K' r H nx) : AC P f ds H nx K' :=
 ⟨h.1, fun s w vs h1 h2 h3 h4 => (h.2 s w vs h1 h2 h3 h4).mono fun _ _ ⟨v, r, s', he, hr, rest⟩ => ⟨v, r, s', he, O _ _ _ hr, rest⟩⟩
def RC (P : Program) (f : FuncId) (ds : List D) (H : HM) (nx : Nat) (r : D) : Prop := AC P f ds H nx fun r' H' nx' => r' = r /\ H' = H /\ nx' = nx

structure Fr (P : Program) (N : Nat) (st : St) (s : RS) (a : Act) (w : World) : Prop where
 H : s.H = st.H
 nx : s.nx = st.nx
 size : a.tmps.size = N
 defers : a.defers = []
 tmps : ∀ i, rel s (st.t i) (a.tmps.getD i undef)
 heap : RH P s w

theorem Fr.ev {N : Nat} {st : St} {s : RS} {a : Act} {w : World} (h : Fr P N st s a w) : ∀ x, rel s (st.ev x) (a.eval x)
 | .tmp t => h.tmps t
 | .const v => zhr s v
 | .global g => h.heap.glob g
 | .func f => by
  simp only [St.ev, Act.eval, rel]
  exact ⟨[], rfl, z0h⟩

def z31 (N : Nat) (o : Oper) : Bool :=
 match o.dst with
 | some i => decide (i < N)
 | none => true

theorem Fr.put {N : Nat} {st : St} {s s' : RS} {a : Act} {w w' : World} (h : Fr P N st s a w) (hl : Later s s') (hr : RH P s' w') {o : Oper} (ho : z31 N o = true) {d : D} {v : Value} (V : rel s' d v) {H : HM} {nx : Nat}
  (hH : s'.H = H) (hnx : s'.nx = nx) : Fr P N ({ st with H := H, nx := nx }.put o.dst d) s' (a.put o.dst v) w' := by
 cases hdst : o.dst with
 | none => exact ⟨hH, hnx, h.size, h.defers, fun i => rel.later hl _ _ (h.tmps i), hr⟩
 | some i =>
  simp only [z31, hdst, decide_eq_true_eq] at ho
  refine ⟨hH, hnx, by simp [Act.put, h.size], h.defers, fun j => ?_, hr⟩
  simp only [St.put, zt1, Act.put]
  by_cases hj : j = i
  ·subst hj
   have hlt : j < a.tmps.size := by rw [h.size]; exact ho
   simpa [Array.getD, hlt] using V
  ·rw [if_neg hj]
   have : (a.tmps.setIfInBounds i v).getD j undef = a.tmps.getD j undef := by
    simp only [Array.getD_eq_getD_getElem?]
    rw [Array.getElem?_setIfInBounds_ne (fun e => hj e.symm)]
   rw [this]
   exact rel.later hl _ _ (h.tmps j)
theorem Fr.put0 {N : Nat} {st : St} {s : RS} {a : Act} {w : World} (h : Fr P N st s a w) {o : Oper} (ho : z31 N o = true) {d : D} {v : Value} (V : rel s d v) : Fr P N (st.put o.dst d) s (a.put o.dst v) w := by
 have := h.put (Step.refl s w).later h.heap ho V h.H h.nx
 exact this

theorem zdu {s : RS} : rel s (.tup []) undef := by simp only [rel]; exact ⟨[], rfl, z0h⟩
def z67 (ops : Array Oper) (st : St) (o : Oper) : Option Bool :=
 match o.guard with
 | none => some true
 | some (j, want) => match (ops[j]?).bind (·.dst) with
  | some i => match st.t i with
   | .bool b => some (b == want)
   | .tup _ => some false
   | _ => none
  | none => none

theorem z36 {N : Nat} {st : St} {s : RS} {a : Act} {w : World} (h : Fr P N st s a w) {ops : Array Oper} {o : Oper} {g : Bool} (hg : z67 ops st o = some g) : Region.wanted o (yielded ops a.tmps) = g := by
 unfold z67 at hg
 unfold Region.wanted
 cases ho : o.guard with
 | none => rw [ho] at hg; simpa using hg
 | some jw =>
  obtain ⟨j, want⟩ := jw
  rw [ho] at hg
  simp only at hg ⊢
  cases V : (ops[j]?).bind (·.dst) with
  | none => rw [V] at hg; cases hg
  | some i =>
   rw [V] at hg
   simp only at hg
   have ht := h.tmps i
   split at hg
   ·rename_i b hb
    cases hg
    rw [hb] at ht
    simp only [rel] at ht
    have hi : a.tmps[i]? = some (.bool b) := by
     simp only [Array.getD_eq_getD_getElem?] at ht
     cases hx : a.tmps[i]? with
     | none => rw [hx] at ht; simp [undef] at ht
     | some x => rw [hx] at ht; simp at ht; rw [ht]
    simp only [yielded, V, Option.bind_some, hi]
    cases b <;> cases want <;> rfl
   ·rename_i ds hb
    cases hg
    rw [hb] at ht
    simp only [rel] at ht
    obtain ⟨vs, hv, _⟩ := ht
    have hy : yielded ops a.tmps j = none := by
     simp only [yielded, V, Option.bind_some]
     cases hx : a.tmps[i]? with
     | none => rfl
     | some x =>
      simp only [Array.getD_eq_getD_getElem?, hx, Option.getD_some] at hv
      subst hv; rfl
    rw [hy]; cases want <;> rfl
   ·cases hg

def opW (P : Program) (own : List Nat) (o : Oper) (st : St) (K : St -> Prop) : Prop :=
 match o.op with
 | .call { callee := .value f, args := args, argTypes := _ } =>
  match st.ev f with
  | .fn g cap => AC P g (args.toList.map st.ev ++ cap) st.H st.nx fun r H nx => K ({ st with H := H, nx := nx }.put o.dst r)
  | .bfn g first => AC P g (first ++ args.toList.map st.ev) st.H st.nx fun r H nx => K ({ st with H := H, nx := nx }.put o.dst r)
  | _ => False
 | _ => match opR P own o st with
  | some (d, H, nx) => K ({ st with H := H, nx := nx }.put o.dst d)
  | none => False

theorem zbp {f : FuncId} (h : zm6 P f) (args : Array Value) (w : World) : (callFunc f args).run P w = .ok (.enter f args) w := by
 obtain ⟨fn, h1, h2, h3⟩ := h
 simp only [callFunc, Sem.run_bind, run_program, Result.andThen_ok, h1, h2, h3, Bool.false_eq_true, if_false, Sem.run_pure]

theorem zff {s : RS} {ds es : List D} {vs us : List Value} (h : relAll s ds vs) (h' : relAll s es us) : relAll s (ds ++ es) (vs ++ us) := z1h h h'

theorem zdv {N : Nat} {own : List Nat} {o : Oper} {st : St} {s : RS} {a : Act} {w : World} {K : St -> Prop} {K' : Act -> World -> Prop} {Q : Exit -> Act -> World -> Prop}
  (h : Fr P N st s a w) (ho : z31 N o = true) (hw : opW P own o st K)
  (O : ∀ st' s' a' w', K st' -> Fr P N st' s' a' w' -> Step s w s' w' -> K' a' w') : o.wp P a w K' Q := by
 unfold opW at hw
 split at hw
 ·rename_i f args tys hop
  split at hw
  ·rename_i g cap hf
   have hv := h.ev f
   rw [hf] at hv
   simp only [rel] at hv
   obtain ⟨cvs, hfv, hcr⟩ := hv
   have hargs := z4s (s := s) (fun x => a.eval x) st.ev h.ev args.toList
   have hc := hw.2 s w (args.toList.map (fun x => a.eval x) ++ cvs) h.H h.nx h.heap (zff hargs hcr)
   unfold Oper.wp
   have hrun : (execOp a.eval o).run P w = .ok (.enter g (args.toList.map (fun x => a.eval x) ++ cvs).toArray) w := by
    unfold execOp
    rw [hop]
    simp only [resolve, hfv, Deferred.ofValue, Sem.run_bind, Sem.run_pure, Result.andThen_ok, invoke]
    rw [zbp hw.1]
    congr 2
    apply Array.ext'
    simp
   rw [hrun, Oper.upon_enter]
   refine hc.mono fun e w' ⟨v, r, s', he, hK, hstep, hRH, hr⟩ => ?_
   subst he
   exact O _ s' _ w' hK (h.put hstep.later hRH ho hr rfl rfl) hstep
  ·rename_i g first hf
   have hv := h.ev f
   rw [hf] at hv
   simp only [rel] at hv
   obtain ⟨cvs, hfv, hcr⟩ := hv
   have hargs := z4s (s := s) (fun x => a.eval x) st.ev h.ev args.toList
   have hc := hw.2 s w (cvs ++ args.toList.map (fun x => a.eval x)) h.H h.nx h.heap (zff hcr hargs)
   unfold Oper.wp
   have hrun : (execOp a.eval o).run P w = .ok (.enter g (cvs ++ args.toList.map (fun x => a.eval x)).toArray) w := by
    unfold execOp
    rw [hop]
    simp only [resolve, hfv, Deferred.ofValue, Sem.run_bind, Sem.run_pure, Result.andThen_ok, invoke]
    rw [zbp hw.1]
    congr 2
    apply Array.ext'
    simp
   rw [hrun, Oper.upon_enter]
   refine hc.mono fun e w' ⟨v, r, s', he, hK, hstep, hRH, hr⟩ => ?_
   subst he
   exact O _ s' _ w' hK (h.put hstep.later hRH ho hr rfl rfl) hstep
  ·cases hw
 ·cases hr : opR P own o st with
  | none => rw [hr] at hw; cases hw
  | some x =>
   obtain ⟨d, H, nx⟩ := x
   rw [hr] at hw
   simp only at hw
   obtain ⟨v, s', w', hrun, hstep, hRH, hH, hnx, V⟩ := zrx h.ev h.H h.nx h.heap hr
   unfold Oper.wp
   rcases hrun with hrun | ⟨hrun, hu⟩
   ·rw [hrun, Oper.upon_value]
    exact O _ s' _ w' hw (h.put hstep.later hRH ho V hH hnx) hstep
   ·rw [hrun, Oper.upon_skip, <- hu]
    exact O _ s' _ w' hw (h.put hstep.later hRH ho V hH hnx) hstep

def zkq (ops : Array Oper) : List (Option Nat) := ops.toList.map (·.dst)
def za6 (gs : List (Option Nat)) (st : St) (o : Oper) : Option Bool :=
 match o.guard with
 | none => some true
 | some (j, want) => match (gs[j]?).bind id with
  | some i => match st.t i with
   | .bool b => some (b == want)
   | .tup _ => some false
   | _ => none
  | none => none
theorem zdw (ops : Array Oper) (st : St) (o : Oper) : za6 (zkq ops) st o = z67 ops st o := by
 unfold za6 z67 zkq
 have h : ∀ j : Nat, ((ops.toList.map (·.dst))[j]?).bind id = (ops[j]?).bind (·.dst) := by
  intro j
  rw [List.getElem?_map, Array.getElem?_toList]
  cases ops[j]? <;> rfl
 cases o.guard with
 | none => rfl
 | some jw =>
  obtain ⟨j, want⟩ := jw
  simp only [h]
  cases (ops[j]?).bind (·.dst) with
  | none => rfl
  | some i => rfl
def z1f (P : Program) (own : List Nat) (gs : List (Option Nat)) : List Oper -> (St -> Prop) -> St -> Prop
 | [], K, st => K st
 | o :: rest, K, st =>
  match za6 gs st o with
  | some true => opW P own o st (z1f P own gs rest K)
  | some false => z1f P own gs rest K (st.put o.dst (.tup []))
  | none => False

theorem z68 {N : Nat} {own : List Nat} {ops : Array Oper} {K : St -> Prop} {Q : Exit -> Act -> World -> Prop} : ∀ (l : List Oper) (st : St) (s : RS) (a : Act) (w : World),
  (∀ o ∈ l, z31 N o = true) -> z1f P own (zkq ops) l K st -> Fr P N st s a w ->
  (∀ st' s' a' w', K st' -> Fr P N st' s' a' w' -> Step s w s' w' -> Q .normal a' w') -> wpList P ops Q l a w
 | [], st, s, a, w, _, h, hf, O => O st s a w h hf (Step.refl s w)
 | o :: rest, st, s, a, w, hdst, h, hf, O => by
  have ho := hdst o (by simp)
  have hrest : ∀ o' ∈ rest, z31 N o' = true := fun o' h' => hdst o' (List.mem_cons_of_mem _ h')
  simp only [z1f] at h
  unfold wpList
  rw [zdw] at h
  split at h
  ·rename_i hg
   rw [if_pos (z36 hf hg)]
   exact .inl (zdv hf ho h fun st' s' a' w' hK hf' hstep =>
    z68 rest st' s' a' w' hrest hK hf' fun st2 s2 a2 w2 hK2 hf2 hstep2 => O st2 s2 a2 w2 hK2 hf2 (hstep.trans hstep2))
  ·rename_i hg
   rw [if_neg (by rw [z36 hf hg]; simp)]
   exact z68 rest _ s _ w hrest h (hf.put0 ho zdu) O
  ·cases h

end Go.Proofs.YtfechgagcgbldaaDoor.Abs
namespace Go.Proofs.YtfechgagcgbldaaDoor.Abs
open Go.RowKit
variable {P : Program}

def cls (own : List Nat) (o : Oper) : Nat :=
 match o.op with
 | .move _ | .pick .. | .build .. | .binOp .. | .unOp .. | .convert .. | .makeFunc .. | .slice .. | .fieldAddr .. | .field .. | .index .. | .extract .. | .nilCheck _ => 0
 | .assign _ => if zec own o.dst = true then 2 else 0
 | .buildSlice .. => if zec own o.dst = true then 2 else 0
 | .load .. | .lookup .. => 1
 | .indexAddr .. => if z06 3000000 own o.dst = true then 0 else 1
 | .call { callee := .value _, .. } => if z06 5000000 own o.dst = true then 0 else if z06 4000000 own o.dst = true then 2 else 1
 | .call { callee := .builtin .len, .. } => if z06 3000000 own o.dst = true then 0 else 1
 | .call { callee := .builtin .append, .. } => if z06 1000000 own o.dst = true then 1 else 2
 | .call { callee := .builtin .max, .. } => 0
 | .call { callee := .builtin .min, .. } => 0
 | _ => 2

def St.withH (st : St) (H : HM) (nx : Nat) : St := { st with H := H, nx := nx }
theorem z19 (st : St) (H : HM) (nx : Nat) : (st.withH H nx).ev = st.ev := by funext x; cases x <;> rfl

theorem z0q (st : St) (H : HM) (nx : Nat) (d : Option D) : (st.withH H nx).keep d = d.map fun d => (d, H, nx) := rfl
theorem z0m {st : St} {d0 : Option D} {d : D} {H : HM} {nx : Nat} (h : st.keep d0 = some (d, H, nx)) : d0 = some d /\ H = st.H /\ nx = st.nx := by
 simp only [St.keep, Option.map_eq_some_iff, Prod.mk.injEq] at h
 obtain ⟨d1, h1, rfl, rfl, rfl⟩ := h
 exact ⟨h1, rfl, rfl⟩

theorem zh7 {own : List Nat} {o : Oper} {st : St} {d : D} {H : HM} {nx : Nat} (hc : cls own o = 0) (h : opR P own o st = some (d, H, nx)) :
  H = st.H /\ nx = st.nx /\ ∀ H2 nx2, opR P own o (st.withH H2 nx2) = some (d, H2, nx2) := by
 unfold cls at hc
 unfold opR at h ⊢
 simp only [z19]
 split at hc <;> rename_i hop <;> first | (cases hc; done) | (split at hc <;> cases hc; done) | skip
 all_goals simp only [hop] at h ⊢
 ·simp only [Option.some.injEq, Prod.mk.injEq] at h
  obtain ⟨rfl, rfl, rfl⟩ := h
  exact ⟨rfl, rfl, fun _ _ => rfl⟩
 ·obtain ⟨h1, rfl, rfl⟩ := z0m h
  exact ⟨rfl, rfl, fun _ _ => by rw [z0q, h1]; rfl⟩
 ·obtain ⟨h1, rfl, rfl⟩ := z0m h
  exact ⟨rfl, rfl, fun _ _ => by rw [z0q, h1]; rfl⟩
 ·obtain ⟨h1, rfl, rfl⟩ := z0m h
  exact ⟨rfl, rfl, fun _ _ => by rw [z0q, h1]; rfl⟩
 ·obtain ⟨h1, rfl, rfl⟩ := z0m h
  exact ⟨rfl, rfl, fun _ _ => by rw [z0q, h1]; rfl⟩
 ·obtain ⟨h1, rfl, rfl⟩ := z0m h
  exact ⟨rfl, rfl, fun _ _ => by rw [z0q, h1]; rfl⟩
 ·split at h
  ·split at h
   ·rename_i h1
    simp only [Option.some.injEq, Prod.mk.injEq] at h
    obtain ⟨rfl, rfl, rfl⟩ := h
    exact ⟨rfl, rfl, fun _ _ => by simp only [h1, if_true]; rfl⟩
   ·rename_i h1
    split at h
    ·rename_i h2
     simp only [Option.some.injEq, Prod.mk.injEq] at h
     obtain ⟨rfl, rfl, rfl⟩ := h
     exact ⟨rfl, rfl, fun _ _ => by simp only [h1, h2, if_true, if_false]; rfl⟩
    ·cases h
  ·cases h
 ·split at h
  ·obtain ⟨h1, rfl, rfl⟩ := z0m h
   exact ⟨rfl, rfl, fun _ _ => by rw [z0q, h1]; rfl⟩
  ·obtain ⟨h1, rfl, rfl⟩ := z0m h
   exact ⟨rfl, rfl, fun _ _ => by rw [z0q, h1]; rfl⟩
 ·obtain ⟨h1, rfl, rfl⟩ := z0m h
  exact ⟨rfl, rfl, fun _ _ => by rw [z0q, h1]; rfl⟩
 ·split at h
  ·rename_i h2 h3
   obtain ⟨h1, rfl, rfl⟩ := z0m h
   exact ⟨rfl, rfl, fun _ _ => by rw [z0q, h1]; rfl⟩
  ·cases h
 ·obtain ⟨h1, rfl, rfl⟩ := z0m h
  exact ⟨rfl, rfl, fun _ _ => by rw [z0q, h1]; rfl⟩
 ·split at h
  ·rename_i h2
   obtain ⟨h1, rfl, rfl⟩ := z0m h
   exact ⟨rfl, rfl, fun _ _ => by rw [z0q, h1]; rfl⟩
  ·cases h
 ·split at h
  ·rename_i h2
   simp only [Option.some.injEq, Prod.mk.injEq] at h
   obtain ⟨rfl, rfl, rfl⟩ := h
   exact ⟨rfl, rfl, fun _ _ => rfl⟩
  ·rename_i h2
   simp only [Option.some.injEq, Prod.mk.injEq] at h
   obtain ⟨rfl, rfl, rfl⟩ := h
   exact ⟨rfl, rfl, fun _ _ => rfl⟩
  ·cases h
 ·split at hc
  ·cases hc
  ·rename_i hown
   split at h
   ·rename_i hnil
    rw [if_neg hown] at h
    simp only [Option.some.injEq, Prod.mk.injEq] at h
    obtain ⟨rfl, rfl, rfl⟩ := h
    refine ⟨rfl, rfl, fun _ _ => ?_⟩
    simp only [if_neg hown]; rfl
   ·simp only [Option.some.injEq, Prod.mk.injEq] at h
    obtain ⟨rfl, rfl, rfl⟩ := h
    exact ⟨rfl, rfl, fun _ _ => rfl⟩
 ·split at hc
  ·cases hc
  ·rename_i hown
   split at h
   ·split at h
    ·rename_i hcond
     simp only [Option.bind_eq_some_iff] at h
     obtain ⟨cs, hcs, h⟩ := h
     split at h
     ·rename_i hmk
      simp only [Option.some.injEq, Prod.mk.injEq] at h
      obtain ⟨rfl, rfl, rfl⟩ := h
      refine ⟨rfl, rfl, fun _ _ => ?_⟩
      rw [if_pos hcond, hcs]
      simp only [Option.bind_some, if_neg hown, if_pos hmk]; rfl
     ·rename_i hmk
      simp only [Option.some.injEq, Prod.mk.injEq] at h
      obtain ⟨rfl, rfl, rfl⟩ := h
      refine ⟨rfl, rfl, fun _ _ => ?_⟩
      rw [if_pos hcond, hcs]
      simp only [Option.bind_some, if_neg hown, if_neg hmk]; rfl
    ·cases h
   ·cases h
 ·split at hc
  ·rename_i hm
   obtain ⟨h1, rfl, rfl⟩ := z0m h
   refine ⟨rfl, rfl, fun H2 n2 => ?_⟩
   have e : hmG own o.dst (st.withH H2 n2).H = hmG own o.dst st.H := by unfold hmG; rw [if_pos hm, if_pos hm]
   rw [e, z0q, h1]; rfl
  ·cases hc
 ·cases h
 ·split at hc
  ·rename_i hm
   have e : ∀ H2 n2, hmG own o.dst (st.withH H2 n2).H = hmG own o.dst st.H := fun H2 n2 => by unfold hmG; rw [if_pos hm, if_pos hm]
   simp only [e]
   split at h
   all_goals first
    | (simp only [reduceCtorEq] at *; done)
    | (obtain ⟨h1, rfl, rfl⟩ := z0m h; exact ⟨rfl, rfl, fun _ _ => by rw [z0q, h1]; rfl⟩)
  ·cases hc
 ·split at h
  all_goals first
   | (simp only [reduceCtorEq] at *; done)
   | (obtain ⟨h1, rfl, rfl⟩ := z0m h; exact ⟨rfl, rfl, fun _ _ => by rw [z0q, h1]; rfl⟩)
 ·split at h
  all_goals first
   | (simp only [reduceCtorEq] at *; done)
   | (obtain ⟨h1, rfl, rfl⟩ := z0m h; exact ⟨rfl, rfl, fun _ _ => by rw [z0q, h1]; rfl⟩)

theorem zuw {own : List Nat} {o : Oper} {st : St} {d : D} {H : HM} {nx : Nat} (hc : cls own o <= 1) (h : opR P own o st = some (d, H, nx)) : H = st.H /\ nx = st.nx := by
  by_cases h0 : cls own o = 0
  · exact ⟨(zh7 h0 h).1, (zh7 h0 h).2.1⟩
  · have h1 : cls own o = 1 := by omega
    unfold cls at h1
    unfold opR at h
    split at h1 <;> rename_i hop <;> first | (cases h1; done) | skip
    all_goals simp only [hop] at h
    · split at h1 <;> cases h1
    · split at h1 <;> cases h1
    · obtain ⟨_, rfl, rfl⟩ := z0m h; exact ⟨rfl, rfl⟩
    · obtain ⟨_, rfl, rfl⟩ := z0m h; exact ⟨rfl, rfl⟩
    · obtain ⟨_, rfl, rfl⟩ := z0m h; exact ⟨rfl, rfl⟩
    · cases h
    · split at h
      all_goals first
        | (simp only [reduceCtorEq] at *; done)
        | (obtain ⟨_, rfl, rfl⟩ := z0m h; exact ⟨rfl, rfl⟩)
    · split at h1
      · rename_i hmk
        split at h
        all_goals first
          | (simp only [reduceCtorEq] at *; done)
          | (split at h
             · first | rw [if_pos hmk] at h | skip
               obtain ⟨_, rfl, rfl⟩ := z0m h
               exact ⟨rfl, rfl⟩
             · cases h)
      · cases h1

theorem z69 {α β : Type} {f g : α -> β} : ∀ (l : List α), (∀ x ∈ l, f x = g x) -> l.map f = l.map g := fun _ h => List.map_congr_left h

theorem zry {own : List Nat} {o : Oper} {st st' : St} (hev : ∀ x ∈ o.op.operands.toList, st.ev x = st'.ev x) (hH : st.H = st'.H) (hnx : st.nx = st'.nx) : opR P own o st = opR P own o st' := by
 unfold opR
 have O : ∀ d, st.keep d = st'.keep d := fun d => by simp only [St.keep, hH, hnx]
 cases hop : o.op <;> simp only [hop, Op.operands] at hev ⊢
 case move x => rw [hev x (by simp), hH, hnx]
 case assign x => rw [hev x (by simp), hH, hnx]
 case pick c a b => rw [hev c (by simp), hev a (by simp), hev b (by simp), O]
 case alloc e => rw [hH, hnx]
 case box e x => rw [hev x (by simp), hH, hnx]
 case build t parts =>
  have : parts.toList.map (fun x => (x.1, st.ev x.2)) = parts.toList.map (fun x => (x.1, st'.ev x.2)) :=
   z69 _ fun x hx => by rw [hev x.2 (List.mem_map.2 ⟨x, hx, rfl⟩)]
  exact (congrArg (fun l => st.keep (z73 P t l)) this).trans (O _)
 case buildSlice t len parts =>
  have : parts.toList.map (fun x => st.ev x.2) = parts.toList.map (fun x => st'.ev x.2) :=
   z69 _ fun x hx => hev x.2 (List.mem_map.2 ⟨x, hx, rfl⟩)
  simp only [this, hH, hnx]
 case load t p => rw [hev p (by simp), hH, hnx, O]
 case store t p v => rw [hev p (by simp), hev v (by simp), hH, hnx]
 case binOp op t x y u => rw [hev x (by simp), hev y (by simp), O]
 case unOp op t x => rw [hev x (by simp), O]
 case convert s d x => rw [hev x (by simp), O]
 case makeFunc fn first cap =>
  have : cap.toList.map st.ev = cap.toList.map st'.ev := z69 _ fun x hx => hev x (by simp; exact .inr (by simpa using hx))
  have this2 : first.toList.map st.ev = first.toList.map st'.ev := z69 _ fun x hx => hev x (by simp; exact .inl (by simpa using hx))
  simp only [this, this2, hH, hnx]
 case makeMap t r =>
  cases r with
  | none => simp only [hH, hnx]
  | some r => rfl
 case range t x => rw [hev x (by simp), hH, hnx]
 case next x b => rw [hev x (by simp), hH, hnx]
 case lookup t x k ok => rw [hev x (by simp), hev k (by simp), hH, O]
 case mapUpdate t m k x => rw [hev m (by simp), hev k (by simp), hev x (by simp), hH, hnx]
 case insert t m k x => rw [hev m (by simp), hev k (by simp), hev x (by simp), hH, hnx]
 case makeSlice t l c => rw [hev l (by simp), hev c (by simp), hH, hnx]
 case slice t x lo hi mx =>
  have h1 : lo.map st.ev = lo.map st'.ev := by
   cases lo with
   | none => rfl
   | some y => simp only [Option.map_some]; rw [hev y (by simp)]
  have h2 : hi.map st.ev = hi.map st'.ev := by
   cases hi with
   | none => rfl
   | some y => simp only [Option.map_some]; rw [hev y (by simp)]
  cases mx with
  | none => rw [hev x (by simp), h1, h2]; simp only [O]
  | some m =>
   show st.keep (z4b P t (st.ev x) (Option.map st.ev lo) (Option.map st.ev hi) (st.ev m)) = st'.keep (z4b P t (st'.ev x) (Option.map st'.ev lo) (Option.map st'.ev hi) (st'.ev m))
   rw [hev x (by simp), h1, h2, hev m (by simp)]; simp only [O]
 case fieldAddr s x f => rw [hev x (by simp), O]
 case field t x f => rw [hev x (by simp)]; simp only [O]
 case indexAddr t x i => rw [hev x (by simp), hev i (by simp), hH, O]
 case index t x i => rw [hev x (by simp), hev i (by simp), O]
 case extract x i => rw [hev x (by simp)]; simp only [O]
 case nilCheck x => rw [hev x (by simp), hH, hnx]
 case call c =>
  have hargs : ∀ x ∈ c.args.toList, st.ev x = st'.ev x := fun x hx => hev x (by simp [Call.operands]; exact .inr (by simpa using hx))
  split
  ·rename_i b hcal
   split
   ·rename_i x t ha _
    rw [hargs x (by rw [ha]; simp), hH, O]
   ·rename_i x y ha
    rw [hargs x (by rw [ha]; simp), hargs y (by rw [ha]; simp), O]
   ·rename_i x y ha
    rw [hargs x (by rw [ha]; simp), hargs y (by rw [ha]; simp), O]
   ·rename_i x y t u ha _
    rw [hargs x (by rw [ha]; simp), hargs y (by rw [ha]; simp), hH, hnx, O]
   ·rfl
  ·rfl

end Go.Proofs.YtfechgagcgbldaaDoor.Abs
namespace Go.Proofs.YtfechgagcgbldaaDoor.Abs
open Go.RowKit
variable {P : Program}

def z8k (st : St) (H : HM) (nx : Nat) : Prop := st.nx <= nx /\ ∀ id, (id < st.nx -> ∀ e cs, st.H id = some (.box e cs) -> H id = some (.box e cs)) /\ (id < nx -> ∀ e cs, H id = some (.box e cs) -> id < st.nx /\ st.H id = some (.box e cs))
def zei (st : St) (H : HM) (nx : Nat) : Prop := st.nx <= nx /\ ∀ id, id < st.nx -> H id = st.H id
def RCF (P : Program) (own : List Nat) (dst : Option Nat) (g : FuncId) (ds : List D) (st : St) (d : D) : Prop :=
 RC P g ds st.H st.nx d /\ (z06 11000000 own dst = true -> ∀ H nx, zei st H nx -> RC P g ds H nx d)
def z95 (i : Nat) : List Nat -> Option Nat
 | s :: r :: l => if s = i + 600000 then some r else z95 i (r :: l)
 | _ => none
def zrz : D -> Option Nat
 | .ptr id _ => some id
 | .eptr id _ _ => some id
 | .osl id _ => some id
 | _ => none
def okT (own : List Nat) (dst : Option Nat) (d : D) : Bool :=
 match dst with
 | some i => (match z95 i own with
  | some r => (match zrz d with
   | some id => decide (id + 900000 = r)
   | none => false)
  | none => true)
 | none => true
def okU (own : List Nat) (dst : Option Nat) (d : D) : Bool :=
 if z06 9000000 own dst = true then (match d with
  | .ptr id _ => decide (z1p own <= id)
  | .osl id _ => decide (z1p own <= id)
  | .rptr _ => true
  | .rsl _ _ _ => true
  | _ => false) else true
def isG (own : List Nat) (dst : Option Nat) : Bool := z06 12000000 own dst && !z06 3000000 own dst && !z06 6000000 own dst && !z06 9000000 own dst
def okG (own : List Nat) (dst : Option Nat) (nx : Nat) (d : D) : Bool :=
 if isG own dst = true then (match d with
  | .ptr id _ => decide (id < nx)
  | .eptr id _ _ => decide (id < nx)
  | .osl id _ => decide (id < nx)
  | _ => false) else true
def zj5 : Operand -> Option Nat
 | .tmp i => some i
 | _ => none
def okW (own : List Nat) (o : Oper) (st : St) : Bool :=
 match o.op with
 | .buildSlice .. => if z06 7000000 own o.dst = true /\ zec own o.dst = true then decide (z1p own <= st.nx) else true
 | .alloc _ => if z06 7000000 own o.dst = true then decide (z1p own <= st.nx) else true
 | .load _ p => okT own o.dst (st.ev p) && okU own o.dst (st.ev p) && okG own o.dst st.nx (st.ev p)
 | .indexAddr _ x _ => okT own o.dst (st.ev x) && okU own o.dst (st.ev x) && okG own o.dst st.nx (st.ev x)
 | .store _ p _ => okT own (zj5 p) (st.ev p)
 | .call { callee := .builtin .append, args := args, .. } =>
  if z06 7000000 own o.dst = true then
   (match args.toList with
   | x :: _ => (match st.ev x with
    | .osl id _ => decide (z1p own <= id /\ z1p own <= st.nx)
    | _ => decide (z1p own <= st.nx))
   | [] => false)
  else true
 | _ => true
theorem zs0 {own : List Nat} {o : Oper} {st st' : St} (hev : ∀ x ∈ o.op.operands.toList, st.ev x = st'.ev x) (hnx : st.nx = st'.nx) : okW own o st = okW own o st' := by
 unfold okW
 cases hop : o.op <;> simp only [hnx]
 ·rename_i t p
  rw [hop] at hev
  rw [hev p (by simp [Op.operands])]
 ·rename_i t p v
  rw [hop] at hev
  rw [hev p (by simp [Op.operands])]
 ·rename_i t x i
  rw [hop] at hev
  rw [hev x (by simp [Op.operands])]
 rename_i c
 obtain ⟨callee, args, tys⟩ := c
 rw [hop] at hev
 simp only [Op.operands, Call.operands] at hev
 cases callee <;> first | rfl | skip
 rename_i b
 cases b <;> first | rfl | skip
 simp only
 split
 ·cases ha : args.toList with
  | nil => rfl
  | cons x l =>
   simp only
   have : st.ev x = st'.ev x := hev x (by
    have hx : x ∈ args := Array.mem_toList_iff.1 (by rw [ha]; simp)
    simpa using hx)
   rw [this]
 ·rfl
theorem z6u {own : List Nat} {o : Oper} {st : St} {H : HM} {nx : Nat} {t : TypeId} {p : Operand} (hop : o.op = .load t p) (hG : isG own o.dst = false := by simp_all [isG]) : okW own o (st.withH H nx) = okW own o st := by
 unfold okW; rw [hop]; simp only [okG, hG, Bool.false_eq_true, if_false]; rfl
theorem zdx {own : List Nat} {o : Oper} {st : St} {H : HM} {nx : Nat} {t : TypeId} {x i : Operand} (hop : o.op = .indexAddr t x i) (hG : isG own o.dst = false) : okW own o (st.withH H nx) = okW own o st := by
 unfold okW; rw [hop]; simp only [okG, hG, Bool.false_eq_true, if_false]; rfl
def tcM (own : List Nat) (dst : Option Nat) : Option Nat := if z06 4000000 own dst = true then (match dst with | some i => z95 i own | none => none) else none
def zux (P : Program) (own : List Nat) (dst : Option Nat) (g : FuncId) (ds : List D) (H0 : HM) (n0 : Nat) (st : St) (d : D) (H : HM) (nx : Nat) : Prop :=
 (tcM own dst = none /\ ((z06 10000000 own dst = false /\ z8k st H nx) \/ (z06 10000000 own dst = true /\ zei st H nx))) \/ ∃ k o', tcM own dst = some (k + 900000) /\ k < z1p own /\ z1p own <= n0 /\ nx = n0 /\ H = z0u H0 k o' /\
  ∀ H' n', z1p own <= n' -> H' k = H0 k -> AC P g ds H' n' (fun r' H2 n2 => r' = d /\ H2 = z0u H' k o' /\ n2 = n')
def z0i (P : Program) (own : List Nat) (ops : Array Oper) (o : Oper) (st : St) (d : D) (H : HM) (nx : Nat) : Prop :=
 (z67 ops st o = some true /\ ((∃ f args tys g cap, o.op = .call { callee := .value f, args := args, argTypes := tys } /\ st.ev f = .fn g cap /\ ((z06 5000000 own o.dst = false /\ tcM own o.dst = none /\ RCF P own o.dst g (args.toList.map st.ev ++ cap) st d /\ H = st.H /\ nx = st.nx) \/
   (z06 5000000 own o.dst = true /\ (∀ H nx, RC P g (args.toList.map st.ev ++ cap) H nx d) /\ H = st.H /\ nx = st.nx) \/
   (z06 5000000 own o.dst = false /\ z06 4000000 own o.dst = true /\ AC P g (args.toList.map st.ev ++ cap) st.H st.nx (fun r' H' nx' => r' = d /\ H' = H /\ nx' = nx) /\ zux P own o.dst g (args.toList.map st.ev ++ cap) st.H st.nx st d H nx))) \/
  (opR P own o st = some (d, H, nx) /\ okW own o st = true))) \/ (z67 ops st o = some false /\ d = .tup [] /\ H = st.H /\ nx = st.nx)
def St.next (st : St) (o : Oper) (d : D) (H : HM) (nx : Nat) : St := (st.withH H nx).put o.dst d

theorem zkr {ops : Array Oper} {o : Oper} {st st' : St} (h : ∀ t ∈ o.looksAt ops, st.t t = st'.t t) : ∀ x ∈ o.op.operands.toList, st.ev x = st'.ev x := by
 intro x hx
 cases x with
 | tmp t =>
  refine h t ?_
  unfold Oper.looksAt
  refine List.mem_append.2 (.inl (List.mem_filterMap.2 ⟨_, hx, rfl⟩))
 | const v => rfl
 | global g => rfl
 | func f => rfl
theorem zej {ops : Array Oper} {o : Oper} {st st' : St} (h : ∀ t ∈ o.looksAt ops, st.t t = st'.t t) : z67 ops st o = z67 ops st' o := by
 unfold z67
 cases hg : o.guard with
 | none => rfl
 | some jw =>
  obtain ⟨j, want⟩ := jw
  simp only
  cases V : (ops[j]?).bind (·.dst) with
  | none => rfl
  | some i =>
   have := h i (by
    unfold Oper.looksAt
    refine List.mem_append.2 (.inr ?_)
    rw [hg]; simp only [V]; simp)
   simp only [this]

theorem z0a {own : List Nat} {ops : Array Oper} {o : Oper} {st st' : St} {d : D} {H : HM} {nx : Nat} (h : ∀ t ∈ o.looksAt ops, st.t t = st'.t t) (hH : st.H = st'.H) (hnx : st.nx = st'.nx)
  (hs : z0i P own ops o st d H nx) : z0i P own ops o st' d H nx := by
 have hev := zkr h
 unfold z0i at *
 rw [zej h] at hs
 rcases hs with ⟨hg, hs⟩ | ⟨hg, hs⟩
 ·refine .inl ⟨hg, ?_⟩
  rcases hs with ⟨f, args, tys, g, cap, hop, hf, hcase⟩ | hs
  ·rw [hop] at hev
   simp only [Op.operands, Call.operands] at hev
   have hargs : args.toList.map st.ev = args.toList.map st'.ev := z69 _ fun x hx => hev x (by simp; exact .inr (by simpa using hx))
   refine .inl ⟨f, args, tys, g, cap, hop, by rw [<- hev f (by simp)]; exact hf, ?_⟩
   rcases hcase with ⟨h0, ht, hrc, h1, h2⟩ | ⟨h0, hrc, h1, h2⟩ | ⟨h0, hm, hac, hsb⟩
   ·refine .inl ⟨h0, ht, ?_, by rw [h1, hH], by rw [h2, hnx]⟩
    unfold RCF zei at hrc ⊢
    rw [<- hargs, <- hH, <- hnx]; exact hrc
   ·exact .inr (.inl ⟨h0, by rw [<- hargs]; exact hrc, by rw [h1, hH], by rw [h2, hnx]⟩)
   ·refine .inr (.inr ⟨h0, hm, by rw [<- hargs, <- hH, <- hnx]; exact hac, ?_⟩)
    unfold zux z8k zei at hsb ⊢
    rw [<- hargs, <- hH, <- hnx]; exact hsb
  ·exact .inr ⟨by rw [<- zry hev hH hnx]; exact hs.1, by rw [<- zs0 hev hnx]; exact hs.2⟩
 ·exact .inr ⟨hg, hs.1, by rw [hs.2.1, hH], by rw [hs.2.2, hnx]⟩

theorem zdy (ops : Array Oper) (st : St) (o : Oper) (H : HM) (nx : Nat) : z67 ops (st.withH H nx) o = z67 ops st o := rfl

theorem zfg {own : List Nat} {ops : Array Oper} {o : Oper} {st : St} {d : D} {H : HM} {nx : Nat} (hc : cls own o = 0) (hs : z0i P own ops o st d H nx) :
  H = st.H /\ nx = st.nx /\ ∀ H2 nx2, z0i P own ops o (st.withH H2 nx2) d H2 nx2 := by
 unfold z0i at *
 rcases hs with ⟨hg, hs⟩ | ⟨hg, h1, h2, h3⟩
 ·rcases hs with ⟨f, args, tys, g, cap, hop, hf, ⟨h0, _⟩ | ⟨h0, hrc, h1, h2⟩ | ⟨h0, _⟩⟩ | hs
  ·unfold cls at hc; rw [hop] at hc; simp only [h0, Bool.false_eq_true, if_false] at hc; split at hc <;> cases hc
  ·exact ⟨h1, h2, fun H2 nx2 => .inl ⟨hg, .inl ⟨f, args, tys, g, cap, hop, by rw [z19]; exact hf, .inr (.inl ⟨h0, by rw [z19]; exact hrc, rfl, rfl⟩)⟩⟩⟩
  ·unfold cls at hc; rw [hop] at hc; simp only [h0, Bool.false_eq_true, if_false] at hc; split at hc <;> cases hc
  ·obtain ⟨h1, h2, h3⟩ := zh7 hc hs.1
   refine ⟨h1, h2, fun H2 nx2 => .inl ⟨hg, .inr ⟨h3 H2 nx2, ?_⟩⟩⟩
   unfold cls at hc
   unfold okW
   split
   ·rename_i hop
    simp only [hop] at hc
    rw [if_neg]
    rintro ⟨_, ho⟩
    rw [if_pos ho] at hc; cases hc
   ·rename_i hop; simp only [hop] at hc; cases hc
   ·rename_i hop; simp only [hop] at hc; cases hc
   ·rename_i hop
    simp only [hop] at hc
    have hG : isG own o.dst = false := by
     split at hc
     ·rename_i h; unfold isG; rw [h]; simp
     ·cases hc
    have hok := (zdx (H := H2) (nx := nx2) hop hG).trans hs.2
    unfold okW at hok
    rw [hop] at hok
    exact hok
   ·rename_i hop; simp only [hop] at hc; cases hc
   ·rename_i hop
    simp only [hop] at hc
    split at hc <;> cases hc
   ·rfl
 ·exact ⟨h2, h3, fun H2 nx2 => .inr ⟨hg, h1, rfl, rfl⟩⟩
theorem z27 {own : List Nat} {ops : Array Oper} {o : Oper} {st : St} {d : D} {H : HM} {nx : Nat} (hc : cls own o <= 1) (hs : z0i P own ops o st d H nx) : H = st.H /\ nx = st.nx := by
 unfold z0i at hs
 rcases hs with ⟨hg, hs⟩ | ⟨hg, h1, h2, h3⟩
 ·rcases hs with ⟨f, args, tys, g, cap, hop, _, ⟨_, _, _, h1, h2⟩ | ⟨_, _, h1, h2⟩ | ⟨h0, hm, _⟩⟩ | hs
  ·exact ⟨h1, h2⟩
  ·exact ⟨h1, h2⟩
  ·unfold cls at hc; rw [hop] at hc; simp only [h0, hm, if_true, Bool.false_eq_true, if_false] at hc; omega
  ·exact zuw hc hs.1
 ·exact ⟨h2, h3⟩

theorem zks {st : St} {dst : Option Nat} {d : D} {t : Nat} (h : dst ≠ some t) : (st.put dst d).t t = st.t t := by
 cases dst with
 | none => rfl
 | some i => simp only [St.put, zt1]; rw [if_neg (fun e => h (by rw [e]))]
theorem zo2 (st : St) (dst : Option Nat) (d : D) : (st.put dst d).H = st.H := by cases dst <;> rfl
theorem zm7 (st : St) (dst : Option Nat) (d : D) : (st.put dst d).nx = st.nx := by cases dst <;> rfl
theorem z1m (st : St) (o : Oper) (d : D) (H : HM) (nx : Nat) : (st.next o d H nx).H = H := by unfold St.next; rw [zo2]; rfl
theorem z0z (st : St) (o : Oper) (d : D) (H : HM) (nx : Nat) : (st.next o d H nx).nx = nx := by unfold St.next; rw [zm7]; rfl
theorem z89 {st : St} {o : Oper} {d : D} {H : HM} {nx t : Nat} (h : o.dst ≠ some t) : (st.next o d H nx).t t = st.t t := by unfold St.next; rw [zks h]; rfl

theorem zj6 {st : St} {x y : Oper} {dx dy : D} {H1 H2 H3 : HM} {n1 n2 n3 : Nat} (h : ∀ d, x.dst = some d -> y.dst ≠ some d) :
  (st.next x dx H1 n1).next y dy H3 n3 = (st.next y dy H2 n2).next x dx H3 n3 := by
 unfold St.next St.withH St.put
 cases hx : x.dst with
 | none => cases hy : y.dst <;> rfl
 | some i =>
  cases hy : y.dst with
  | none => rfl
  | some j =>
   have hij : j ≠ i := fun e => h i hx (by rw [hy, e])
   simp only [St.mk.injEq, and_true]
   funext k
   simp only [zt1]
   by_cases h1 : k = j
   ·subst h1; rw [if_pos rfl, if_neg hij, if_pos rfl]
   ·rw [if_neg h1]
    by_cases h2 : k = i
    ·rw [if_pos h2, if_pos h2]
    ·rw [if_neg h2, if_neg h2, if_neg h1]

def z6a (own : List Nat) (o : Oper) : Bool :=
 match o.op with
 | .load _ _ => z06 3000000 own o.dst
 | _ => false
def zdz (own : List Nat) (o : Oper) : Bool :=
 match o.op with
 | .call { callee := .value _, .. } => z06 4000000 own o.dst && (tcM own o.dst).isNone && !z06 10000000 own o.dst
 | .call { callee := .builtin .append, .. } => true
 | .buildSlice .. => true
 | _ => false
theorem z3w (st : St) : z8k st st.H st.nx := ⟨Nat.le_refl _, fun _ => ⟨fun _ _ _ h => h, fun h _ _ h2 => ⟨h, h2⟩⟩⟩
theorem zs1 (st : St) {id0 : Nat} {o o' : HObj} (h0 : st.H id0 = some o) (hb : ∀ e cs, o ≠ .box e cs) (hb' : ∀ e cs, o' ≠ .box e cs) : z8k st (z0u st.H id0 (some o')) st.nx := by
 refine ⟨Nat.le_refl _, fun id => ⟨fun _ e cs h => ?_, fun hlt e cs h => ⟨hlt, ?_⟩⟩⟩
 ·unfold z0u
  by_cases he : id = id0
  ·subst he; rw [h0] at h; cases h; exact (hb _ _ rfl).elim
  ·rw [if_neg he]; exact h
 ·unfold z0u at h
  by_cases he : id = id0
  ·rw [if_pos he] at h; cases h; exact (hb' _ _ rfl).elim
  ·rw [if_neg he] at h; exact h
theorem ze0 (st : St) {o' : HObj} (hb' : ∀ e cs, o' ≠ .box e cs) : z8k st (z0u st.H st.nx (some o')) (st.nx + 1) := by
 refine ⟨by omega, fun id => ⟨fun hlt e cs h => ?_, fun hlt e cs h => ?_⟩⟩
 ·unfold z0u; rw [if_neg (by omega)]; exact h
 ·unfold z0u at h
  by_cases he : id = st.nx
  ·rw [if_pos he] at h; cases h; exact (hb' _ _ rfl).elim
  ·rw [if_neg he] at h; exact ⟨by omega, h⟩
theorem zo3 (st : St) {H : HM} {nx id0 : Nat} {o : HObj} (h : z8k st H nx) (h0 : H id0 = some o) (hb : ∀ e cs, o ≠ .box e cs) : z8k st (z0u H id0 none) nx := by
 refine ⟨h.1, fun id => ⟨fun hlt e cs h1 => ?_, fun hlt e cs h1 => ?_⟩⟩
 ·have h2 := (h.2 id).1 hlt e cs h1
  unfold z0u
  by_cases he : id = id0
  ·subst he; rw [h0] at h2; cases h2; exact (hb _ _ rfl).elim
  ·rw [if_neg he]; exact h2
 ·unfold z0u at h1
  by_cases he : id = id0
  ·rw [if_pos he] at h1; cases h1
  ·rw [if_neg he] at h1; exact (h.2 id).2 hlt e cs h1
theorem za7 {st : St} {t : TypeId} {x y d : D} {H : HM} {nx : Nat} (h : z4x P st.H st.nx t x y = some (d, H, nx)) : z8k st H nx := by
 unfold z4x at h
 split at h
 ·split at h
  ·simp only [Option.bind_eq_some_iff] at h
   obtain ⟨⟨m, news⟩, _, h⟩ := h
   simp only at h
   split at h
   ·split at h
    ·simp only [Option.some.injEq, Prod.mk.injEq] at h
     obtain ⟨_, rfl, rfl⟩ := h
     exact ze0 st (by intro e cs h; cases h)
    ·cases h
   ·split at h
    ·rename_i hid
     split at h
     ·simp only [Option.some.injEq, Prod.mk.injEq] at h
      obtain ⟨_, rfl, rfl⟩ := h
      exact zs1 st hid (by intro e cs h; cases h) (by intro e cs h; cases h)
     ·cases h
    ·cases h
   ·cases h
  ·cases h
 ·cases h
theorem zkt {st : St} {d d' : D} {H H' : HM} {nx nx' : Nat} (h0 : z8k st H nx) (h : zcp P (d, H, nx) = some (d', H', nx')) : z8k st H' nx' := by
 unfold zcp at h
 split at h
 ·rename_i heq
  cases heq
  split at h
  ·rename_i hid
   split at h
   ·simp only [Option.some.injEq, Prod.mk.injEq] at h
    obtain ⟨_, rfl, rfl⟩ := h
    exact zo3 st h0 hid (by intro e cs h; cases h)
   ·cases h
  ·cases h
 ·cases h
theorem zo4 {own : List Nat} {o : Oper} {st : St} {d : D} {H : HM} {nx : Nat} (O : zdz own o = true) (h : opR P own o st = some (d, H, nx)) : z8k st H nx := by
 unfold zdz at O
 split at O
 ·rename_i hop
  unfold opR at h
  simp only [hop] at h
  cases h
 ·rename_i hop
  unfold opR at h
  simp only [hop] at h
  split at h
  all_goals first
   | (simp only [reduceCtorEq] at *; done)
   | skip
  ·split at h
   ·split at h
    ·obtain ⟨_, rfl, rfl⟩ := z0m h
     exact z3w st
    ·split at h
     ·simp only [Option.bind_eq_some_iff] at h
      obtain ⟨⟨d1, H1, n1⟩, h1, h2⟩ := h
      exact zkt (za7 h1) h2
     ·exact za7 h
   ·cases h
 ·rename_i hop
  unfold opR at h
  simp only [hop] at h
  split at h
  ·split at h
   ·simp only [Option.bind_eq_some_iff] at h
    obtain ⟨cs, _, h⟩ := h
    split at h
    ·simp only [Option.some.injEq, Prod.mk.injEq] at h
     obtain ⟨_, rfl, rfl⟩ := h
     exact ze0 st (fun e cs h => by cases h)
    ·split at h
     ·simp only [Option.some.injEq, Prod.mk.injEq] at h
      obtain ⟨_, rfl, rfl⟩ := h
      exact z3w st
     ·simp only [Option.some.injEq, Prod.mk.injEq] at h
      obtain ⟨_, rfl, rfl⟩ := h
      exact z3w st
   ·cases h
  ·cases h
 ·cases O
theorem zbq {own : List Nat} {ops : Array Oper} {o : Oper} {st : St} {d : D} {H : HM} {nx : Nat} (O : zdz own o = true) (hs : z0i P own ops o st d H nx) : z8k st H nx := by
 unfold z0i at hs
 rcases hs with ⟨hg, hs⟩ | ⟨hg, h1, h2, h3⟩
 ·rcases hs with ⟨f, args, tys, g, cap, hop, _, ⟨_, _, _, h1, h2⟩ | ⟨_, _, h1, h2⟩ | ⟨_, _, _, hsb⟩⟩ | hs
  ·subst h1; subst h2; exact z3w st
  ·subst h1; subst h2; exact z3w st
  ·rcases hsb with ⟨_, ⟨_, hsb⟩ | ⟨hm, _⟩⟩ | ⟨k, o', ht, _⟩
   ·exact hsb
   ·unfold zdz at O
    rw [hop] at O
    simp [hm] at O
   ·unfold zdz at O
    rw [hop] at O
    simp [ht] at O
  ·exact zo4 O hs.1
 ·subst h2; subst h3; exact z3w st
theorem zo5 {st : St} {H : HM} {nx : Nat} {t : TypeId} {p d : D} (hb : z8k st H nx) : (z8g P st.H st.nx t p = some d -> z8g P H nx t p = some d) /\ (z8g P H nx t p = some d -> z8g P st.H st.nx t p = some d) := by
 cases p <;> first | (constructor <;> intro h <;> exact h) | skip
 rename_i id off
 simp only [z8g, z2x]
 constructor
 ·intro h
  split at h
  ·rename_i hlt
   rw [if_pos (Nat.lt_of_lt_of_le hlt hb.1)]
   split at h
   ·rename_i hid
    rw [(hb.2 id).1 hlt _ _ hid]; exact h
   ·cases h
  ·cases h
 ·intro h
  split at h
  ·rename_i hlt
   split at h
   ·rename_i hid
    obtain ⟨h1, h2⟩ := (hb.2 id).2 hlt _ _ hid
    rw [if_pos h1, h2]; exact h
   ·cases h
  ·cases h
theorem zfh {own : List Nat} {o : Oper} (hl : z6a own o = true) : ∃ t p, o.op = .load t p /\ ∀ st : St, opR P own o st = st.keep (z8g P st.H st.nx t (st.ev p)) := by
 unfold z6a at hl
 split at hl
 ·rename_i t p hop
  refine ⟨t, p, hop, fun st => ?_⟩
  unfold opR
  simp only [hop, z8w, hl, if_true]
 ·cases hl
theorem zy0 {own : List Nat} {o : Oper} (hl : z6a own o = true) : isG own o.dst = false := by
 unfold z6a at hl
 split at hl
 ·unfold isG; rw [hl]; simp
 ·cases hl
theorem z6b {own : List Nat} {o : Oper} (hl : z6a own o = true) : cls own o = 1 := by
 unfold z6a at hl
 split at hl
 ·rename_i hop
  unfold cls; rw [hop]
 ·cases hl
theorem z5m {own : List Nat} {ops : Array Oper} {o : Oper} {st : St} {d : D} {H : HM} {nx : Nat} (hl : z6a own o = true) (hb : z8k st H nx) :
  (z0i P own ops o st d st.H st.nx -> z0i P own ops o (st.withH H nx) d H nx) /\ (z0i P own ops o (st.withH H nx) d H nx -> z0i P own ops o st d st.H st.nx) := by
 obtain ⟨t, p, hop, hop2⟩ := zfh (P := P) hl
 obtain ⟨k1, k2⟩ := zo5 (P := P) (t := t) (p := st.ev p) (d := d) hb
 have e1 : opR P own o (st.withH H nx) = (z8g P H nx t (st.ev p)).map fun d => (d, H, nx) := by rw [hop2, z19]; rfl
 have e2 : opR P own o st = (z8g P st.H st.nx t (st.ev p)).map fun d => (d, st.H, st.nx) := by rw [hop2]; rfl
 constructor
 ·intro hs
  unfold z0i at *
  rcases hs with ⟨hg, hs⟩ | ⟨hg, h1, _, _⟩
  ·refine .inl ⟨hg, .inr ?_⟩
   rcases hs with ⟨f, args, tys, g, cap, hop', _⟩ | hs
   ·rw [hop] at hop'; cases hop'
   ·rw [e2, Option.map_eq_some_iff] at hs
    obtain ⟨⟨d1, h1, h2⟩, hok⟩ := hs
    simp only [Prod.mk.injEq, and_true] at h2
    subst h2
    rw [e1, k1 h1]; exact ⟨rfl, by rw [z6u hop (zy0 hl)]; exact hok⟩
  ·exact .inr ⟨hg, h1, rfl, rfl⟩
 ·intro hs
  unfold z0i at *
  rcases hs with ⟨hg, hs⟩ | ⟨hg, h1, _, _⟩
  ·refine .inl ⟨hg, .inr ?_⟩
   rcases hs with ⟨f, args, tys, g, cap, hop', _⟩ | hs
   ·rw [hop] at hop'; cases hop'
   ·rw [e1, Option.map_eq_some_iff] at hs
    obtain ⟨⟨d1, h1, h2⟩, hok⟩ := hs
    simp only [Prod.mk.injEq, and_true] at h2
    subst h2
    rw [e2, k2 h1]; exact ⟨rfl, by rw [z6u hop (zy0 hl)] at hok; exact hok⟩
  ·exact .inr ⟨hg, h1, rfl, rfl⟩
def newB (own : List Nat) (o : Oper) : Bool :=
 match o.op with
 | .alloc _ => true
 | .call { callee := .value _, .. } => z06 4000000 own o.dst && (tcM own o.dst).isNone && z06 10000000 own o.dst
 | _ => false
theorem zo6 {own : List Nat} {ops : Array Oper} {o : Oper} {st : St} {d : D} {H : HM} {nx : Nat} (O : newB own o = true) (hs : z0i P own ops o st d H nx) : zei st H nx := by
 have h0 : zei st st.H st.nx := ⟨Nat.le_refl _, fun _ _ => rfl⟩
 unfold newB at O
 split at O
 ·rename_i e hop
  unfold z0i at hs
  rcases hs with ⟨hg, ⟨f, args, tys, g, cap, hop2, _⟩ | hs⟩ | ⟨hg, h1, h2, h3⟩
  ·rw [hop] at hop2; cases hop2
  ·unfold opR at hs
   simp only [hop, Option.map_eq_some_iff, Prod.mk.injEq] at hs
   obtain ⟨⟨zs, _, _, rfl, rfl⟩, _⟩ := hs
   refine ⟨Nat.le_succ _, fun id hlt => ?_⟩
   unfold z0u
   rw [if_neg (by omega)]
  ·subst h2; subst h3; exact h0
 ·rename_i c args tys hop
  simp only [Bool.and_eq_true, Option.isNone_iff_eq_none] at O
  unfold z0i at hs
  rcases hs with ⟨hg, hs⟩ | ⟨hg, h1, h2, h3⟩
  ·rcases hs with ⟨f, args, tys, g, cap, hop2, _, ⟨_, _, _, h1, h2⟩ | ⟨_, _, h1, h2⟩ | ⟨_, _, _, hsb⟩⟩ | hs
   ·subst h1; subst h2; exact h0
   ·subst h1; subst h2; exact h0
   ·rcases hsb with ⟨_, ⟨hm, _⟩ | ⟨_, hsb⟩⟩ | ⟨k, o', ht, _⟩
    ·rename_i hop3 _ _ _ _
     have := O.2
     first | (rw [hm] at this; cases this) | (rw [this] at hm; cases hm)
    ·exact hsb
    ·rw [O.1.2] at ht; cases ht
   ·have := hs.1
    unfold opR at this
    rw [hop] at this
    cases this
  ·subst h2; subst h3; exact h0
 ·cases O
theorem zku {st : St} {H : HM} {nx : Nat} {t : TypeId} {p d : D} (hb : zei st H nx) (h : z8g P st.H st.nx t p = some d) : z8g P H nx t p = some d := by
 cases p <;> first | exact h | skip
 rename_i id off
 simp only [z8g, z2x] at h ⊢
 split at h
 ·rename_i hlt
  rw [if_pos (Nat.lt_of_lt_of_le hlt hb.1)]
  split at h
  ·rename_i hid
   rw [hb.2 id hlt, hid]; exact h
  ·cases h
 ·cases h
def zs2 (own : List Nat) (o : Oper) : Bool :=
 match o.op with
 | .call { callee := .value _, .. } => z06 11000000 own o.dst && !z06 5000000 own o.dst && !z06 4000000 own o.dst
 | _ => false
theorem zs3 {own : List Nat} {o : Oper} (hl : zs2 own o = true) : cls own o = 1 := by
 unfold zs2 at hl
 split at hl
 ·rename_i hop
  simp only [Bool.and_eq_true, Bool.not_eq_true'] at hl
  unfold cls; rw [hop]; simp only [hl.1.2, hl.2, Bool.false_eq_true, if_false]
 ·cases hl
theorem zkv {own : List Nat} {ops : Array Oper} {o : Oper} {st : St} {d : D} {H : HM} {nx : Nat} (hl : zs2 own o = true) (hb : zei st H nx) (hs : z0i P own ops o st d st.H st.nx) : z0i P own ops o (st.withH H nx) d H nx := by
 unfold zs2 at hl
 split at hl
 ·rename_i c args0 tys0 hop0
  simp only [Bool.and_eq_true, Bool.not_eq_true'] at hl
  unfold z0i at *
  rcases hs with ⟨hg, hs⟩ | ⟨hg, h1, _, _⟩
  ·refine .inl ⟨hg, ?_⟩
   rcases hs with ⟨f, args, tys, g, cap, hop, hf, ⟨h0, ht, hrc, _, _⟩ | ⟨h0, _⟩ | ⟨_, hm, _⟩⟩ | hs
   ·refine .inl ⟨f, args, tys, g, cap, hop, by rw [z19]; exact hf, .inl ⟨h0, ht, ?_, rfl, rfl⟩⟩
    rw [z19]
    exact ⟨hrc.2 hl.1.1 H nx hb, fun _ H2 n2 h2 => hrc.2 hl.1.1 H2 n2 ⟨Nat.le_trans hb.1 h2.1, fun id hid => (h2.2 id (Nat.lt_of_lt_of_le hid hb.1)).trans (hb.2 id hid)⟩⟩
   ·rw [hl.1.2] at h0; cases h0
   ·rw [hl.2] at hm; cases hm
   ·have := hs.1
    unfold opR at this
    rw [hop0] at this
    cases this
  ·exact .inr ⟨hg, h1, rfl, rfl⟩
 ·cases hl
theorem zj7 {own : List Nat} {ops : Array Oper} {o : Oper} {st : St} {d : D} {H : HM} {nx : Nat} (hl : z6a own o = true) (hb : zei st H nx) (hs : z0i P own ops o st d st.H st.nx) : z0i P own ops o (st.withH H nx) d H nx := by
 obtain ⟨t, p, hop, hop2⟩ := zfh (P := P) hl
 have e1 : opR P own o (st.withH H nx) = (z8g P H nx t (st.ev p)).map fun d => (d, H, nx) := by rw [hop2, z19]; rfl
 have e2 : opR P own o st = (z8g P st.H st.nx t (st.ev p)).map fun d => (d, st.H, st.nx) := by rw [hop2]; rfl
 unfold z0i at *
 rcases hs with ⟨hg, hs⟩ | ⟨hg, h1, _, _⟩
 ·refine .inl ⟨hg, .inr ?_⟩
  rcases hs with ⟨f, args, tys, g, cap, hop', _⟩ | hs
  ·rw [hop] at hop'; cases hop'
  ·rw [e2, Option.map_eq_some_iff] at hs
   obtain ⟨⟨d1, h1, h2⟩, hok⟩ := hs
   simp only [Prod.mk.injEq, and_true] at h2
   subst h2
   rw [e1, zku hb h1]; exact ⟨rfl, by rw [z6u hop (zy0 hl)]; exact hok⟩
 ·exact .inr ⟨hg, h1, rfl, rfl⟩
def zj8 (own : List Nat) (o : Oper) : Bool :=
 match o.op with
 | .load .. => isG own o.dst
 | .indexAddr .. => isG own o.dst
 | _ => false
theorem zo7 {own : List Nat} {o : Oper} (hl : zj8 own o = true) : cls own o = 1 := by
 unfold zj8 at hl
 split at hl
 ·rename_i hop
  unfold cls; rw [hop]
 ·rename_i hop
  simp only [isG, Bool.and_eq_true, Bool.not_eq_true'] at hl
  unfold cls; rw [hop]; simp only [hl.1.1.2, Bool.false_eq_true, if_false]
 ·cases hl
theorem zwj {own : List Nat} {dst : Option Nat} {n m : Nat} {d : D} (hle : n <= m) (h : okG own dst n d = true) : okG own dst m d = true := by
 unfold okG at *
 split
 ·rename_i hg
  rw [if_pos hg] at h
  cases d <;> first | (cases h; done) | (exact decide_eq_true (Nat.lt_of_lt_of_le (of_decide_eq_true h) hle))
 ·rfl
theorem zj9 {own : List Nat} {ops : Array Oper} {o : Oper} {st : St} {d : D} {H : HM} {nx : Nat} (hl : zj8 own o = true) (hb : zei st H nx) (hs : z0i P own ops o st d st.H st.nx) : z0i P own ops o (st.withH H nx) d H nx := by
 unfold zj8 at hl
 split at hl
 ·rename_i t p hop
  unfold z0i at *
  rcases hs with ⟨hg, hs⟩ | ⟨hg, h1, _, _⟩
  ·refine .inl ⟨hg, .inr ?_⟩
   rcases hs with ⟨f, args, tys, g, cap, hop', _⟩ | ⟨hs, hok⟩
   ·rw [hop] at hop'; cases hop'
   ·have h3 := hl
    simp only [isG, Bool.and_eq_true, Bool.not_eq_true'] at h3
    have e : ∀ st : St, opR P own o st = st.keep (z2x P st.H t (st.ev p)) := fun st => by
     unfold opR; rw [hop]
     simp only [z8w, h3.1.1.2, h3.1.2, Bool.false_eq_true, if_false]
    rw [e] at hs ⊢
    obtain ⟨h1, _, _⟩ := z0m hs
    rw [z0q, z19]
    unfold okW at hok ⊢
    rw [hop] at hok ⊢
    simp only [Bool.and_eq_true] at hok ⊢
    obtain ⟨hok1, hok2⟩ := hok
    have h2 : z2x P H t (st.ev p) = some d := by
     rw [<- h1]
     unfold okG at hok2
     rw [if_pos hl] at hok2
     split at hok2
     ·rename_i id off he
      rw [he]
      have := hb.2 id (of_decide_eq_true hok2)
      simp only [z2x, this]
     ·rename_i id off k he
      rw [he]
      have := hb.2 id (of_decide_eq_true hok2)
      simp only [z2x, this]
     ·rename_i he; rw [he]; rfl
     ·cases hok2
    refine ⟨by show Option.map _ (z2x P H t (st.ev p)) = _; rw [h2]; rfl, hok1, ?_⟩
    rw [z19]
    have hle : st.nx <= nx := hb.1
    exact zwj hle hok2
  ·exact .inr ⟨hg, h1, rfl, rfl⟩
 ·rename_i t x i hop
  unfold z0i at *
  rcases hs with ⟨hg, hs⟩ | ⟨hg, h1, _, _⟩
  ·refine .inl ⟨hg, .inr ?_⟩
   rcases hs with ⟨f, args, tys, g, cap, hop', _⟩ | ⟨hs, hok⟩
   ·rw [hop] at hop'; cases hop'
   ·have h3 := hl
    simp only [isG, Bool.and_eq_true, Bool.not_eq_true'] at h3
    have e : ∀ st : St, opR P own o st = st.keep (z0f P st.H t (st.ev x) (st.ev i)) := fun st => by
     unfold opR; rw [hop]
     simp only [hmG, h3.1.1.2, h3.1.2, Bool.false_eq_true, if_false]
    rw [e] at hs ⊢
    obtain ⟨h1, _, _⟩ := z0m hs
    rw [z0q, z19]
    unfold okW at hok ⊢
    rw [hop] at hok ⊢
    simp only [Bool.and_eq_true] at hok ⊢
    obtain ⟨hok1, hok2⟩ := hok
    have h2 : z0f P H t (st.ev x) (st.ev i) = some d := by
     rw [<- h1]
     unfold okG at hok2
     rw [if_pos hl] at hok2
     split at hok2
     ·rename_i he; rw [he]; unfold z0f; rfl
     ·rename_i he; rw [he]; unfold z0f; rfl
     ·rename_i id k he
      rw [he]
      have := hb.2 id (of_decide_eq_true hok2)
      unfold z0f
      cases z0p P t with
      | none => rfl
      | some e => cases st.ev i <;> first | rfl | simp only [this]
     ·cases hok2
    refine ⟨by show Option.map _ (z0f P H t (st.ev x) (st.ev i)) = _; rw [h2]; rfl, hok1, ?_⟩
    rw [z19]
    exact zwj hb.1 hok2
  ·exact .inr ⟨hg, h1, rfl, rfl⟩
 ·cases hl
def za8 (own : List Nat) (o : Oper) : Bool :=
 match o.op with
 | .load .. => z06 6000000 own o.dst && !z06 3000000 own o.dst
 | .indexAddr .. => z06 6000000 own o.dst && !z06 3000000 own o.dst
 | _ => false
def zja (own : List Nat) (o : Oper) : Bool :=
 match o.op with
 | .buildSlice .. => z06 7000000 own o.dst && zec own o.dst
 | .alloc _ => z06 7000000 own o.dst
 | .call { callee := .builtin .append, .. } => z06 7000000 own o.dst && !z06 1000000 own o.dst
 | _ => false
theorem z4l {H : HM} {i j : Nat} {o : Option HObj} (h : ¬ j = i) : z0u H i o j = H j := if_neg h
def z33 (B : Nat) (H H' : HM) : Prop := ∀ id, id < B -> H' id = H id
theorem zs4 {B : Nat} {H H' : HM} (h : z33 B H H') : zoq B H' = zoq B H := by
 funext id
 unfold zoq
 split
 ·rename_i hlt; exact h id hlt
 ·rfl
theorem zfi {own : List Nat} {o : Oper} (hl : za8 own o = true) : cls own o = 1 := by
 unfold za8 at hl
 split at hl
 ·rename_i hop; unfold cls; rw [hop]
 ·rename_i hop
  simp only [Bool.and_eq_true, Bool.not_eq_true'] at hl
  unfold cls; rw [hop]; simp only [hl.2, Bool.false_eq_true, if_false]
 ·cases hl
theorem zo8 {own : List Nat} {o : Oper} (hl : za8 own o = true) {st : St} {H : HM} {nx : Nat} (h : z33 (z1p own) st.H H) (d : D) :
  (opR P own o st = some (d, st.H, st.nx) ↔ opR P own o (st.withH H nx) = some (d, H, nx)) := by
 have hc := zs4 h
 unfold za8 at hl
 split at hl
 ·rename_i t p hop
  simp only [Bool.and_eq_true, Bool.not_eq_true'] at hl
  unfold opR
  simp only [hop, z8w, hl.1, hl.2, Bool.false_eq_true, if_false, if_true, z19]
  show (st.keep _ = _) ↔ ((st.withH H nx).keep (z2x P (zoq (z1p own) H) t (st.ev p)) = _)
  rw [hc]
  simp only [St.keep, Option.map_eq_some_iff, Prod.mk.injEq]
  constructor
  ·rintro ⟨a, h1, h2, _⟩; exact ⟨a, h1, h2, by simp [St.withH]⟩
  ·rintro ⟨a, h1, h2, _⟩; exact ⟨a, h1, h2, by simp⟩
 ·rename_i t x i hop
  simp only [Bool.and_eq_true, Bool.not_eq_true'] at hl
  unfold opR
  simp only [hop, hmG, hl.1, hl.2, Bool.false_eq_true, if_false, if_true, z19]
  show (st.keep _ = _) ↔ ((st.withH H nx).keep (z0f P (zoq (z1p own) H) t (st.ev x) (st.ev i)) = _)
  rw [hc]
  simp only [St.keep, Option.map_eq_some_iff, Prod.mk.injEq]
  constructor
  ·rintro ⟨a, h1, h2, _⟩; exact ⟨a, h1, h2, by simp [St.withH]⟩
  ·rintro ⟨a, h1, h2, _⟩; exact ⟨a, h1, h2, by simp⟩
 ·cases hl
theorem zbr {own : List Nat} {ops : Array Oper} {o : Oper} {st : St} {d : D} {H : HM} {nx : Nat} (hl : za8 own o = true) (h : z33 (z1p own) st.H H) :
  z0i P own ops o st d st.H st.nx ↔ z0i P own ops o (st.withH H nx) d H nx := by
 have hok : okW own o (st.withH H nx) = okW own o st := by
  unfold za8 at hl
  split at hl
  ·rename_i hop; exact z6u hop
  ·rename_i hop; exact zdx hop (by simp_all [isG])
  ·cases hl
 have hno : ∀ f args tys, o.op ≠ .call { callee := .value f, args := args, argTypes := tys } := fun f args tys e => by unfold za8 at hl; rw [e] at hl; cases hl
 have hr := zo8 (P := P) hl (nx := nx) h d
 unfold z0i
 rw [zdy]
 constructor
 ·rintro (⟨hg, ⟨f, args, tys, g, cap, hop, _⟩ | hs⟩ | ⟨hg, h1, _, _⟩)
  ·exact (hno _ _ _ hop).elim
  ·exact .inl ⟨hg, .inr ⟨hr.1 hs.1, by rw [hok]; exact hs.2⟩⟩
  ·exact .inr ⟨hg, h1, rfl, rfl⟩
 ·rintro (⟨hg, ⟨f, args, tys, g, cap, hop, _⟩ | hs⟩ | ⟨hg, h1, _, _⟩)
  ·exact (hno _ _ _ hop).elim
  ·exact .inl ⟨hg, .inr ⟨hr.2 hs.1, by rw [<- hok]; exact hs.2⟩⟩
  ·exact .inr ⟨hg, h1, rfl, rfl⟩
theorem za9 {B : Nat} {H : HM} {nx : Nat} {t : TypeId} {x y d : D} {H' : HM} {nx' : Nat} (h : z4x P H nx t x y = some (d, H', nx')) (hx : ∀ id n, x = .osl id n -> B <= id) (hn : B <= nx) : z33 B H H' /\ ∀ id n, d = .osl id n -> B <= id := by
 unfold z4x at h
 split at h
 ·split at h
  ·simp only [Option.bind_eq_some_iff] at h
   obtain ⟨⟨m, news⟩, _, h⟩ := h
   simp only at h
   split at h
   ·split at h
    ·simp only [Option.some.injEq, Prod.mk.injEq] at h
     obtain ⟨rfl, rfl, _⟩ := h
     exact ⟨fun id hid => z4l (by omega), fun id n e => by cases e; exact hn⟩
    ·cases h
   ·rename_i id0 n0
    have hb := hx _ _ rfl
    split at h
    ·split at h
     ·simp only [Option.some.injEq, Prod.mk.injEq] at h
      obtain ⟨rfl, rfl, _⟩ := h
      exact ⟨fun id hid => z4l (by omega), fun id n e => by cases e; exact hb⟩
     ·cases h
    ·cases h
   ·cases h
  ·cases h
 ·cases h
theorem zkw {B : Nat} {d d' : D} {H H' : HM} {nx nx' : Nat} (h : zcp P (d, H, nx) = some (d', H', nx')) (V : ∀ id n, d = .osl id n -> B <= id) : z33 B H H' := by
 unfold zcp at h
 split at h
 ·rename_i id n H0 nx0 e
  simp only [Prod.mk.injEq] at e
  obtain ⟨rfl, rfl, rfl⟩ := e
  have hb := V _ _ rfl
  split at h
  ·split at h
   ·simp only [Option.some.injEq, Prod.mk.injEq] at h
    obtain ⟨_, rfl, _⟩ := h
    exact fun id hid => z4l (by omega)
   ·cases h
  ·cases h
 ·cases h
theorem zbs {own : List Nat} {ops : Array Oper} {o : Oper} {st : St} {d : D} {H : HM} {nx : Nat} (O : zja own o = true) (hs : z0i P own ops o st d H nx) : z33 (z1p own) st.H H := by
 have h0 : z33 (z1p own) st.H st.H := fun _ _ => rfl
 unfold z0i at hs
 rcases hs with ⟨hg, ⟨f, args, tys, g, cap, hop, _⟩ | ⟨hs, hok⟩⟩ | ⟨hg, h1, h2, h3⟩
 ·unfold zja at O; rw [hop] at O; cases O
 ·unfold zja at O
  unfold okW at hok
  unfold opR at hs
  split at O
  ·rename_i hop
   simp only [Bool.and_eq_true] at O
   simp only [hop, O.1, O.2, and_self, if_true, decide_eq_true_eq] at hok hs
   split at hs
   ·split at hs
    ·simp only [Option.bind_eq_some_iff] at hs
     obtain ⟨cs, _, hs⟩ := hs
     simp only [Option.some.injEq, Prod.mk.injEq] at hs
     obtain ⟨_, rfl, _⟩ := hs
     exact fun id hid => z4l (by omega)
    ·cases hs
   ·cases hs
  ·rename_i hop
   simp only [hop, O, if_true, decide_eq_true_eq, Option.map_eq_some_iff, Prod.mk.injEq] at hok hs
   obtain ⟨zs, _, _, rfl, _⟩ := hs
   exact fun id hid => z4l (by omega)
  ·rename_i hop
   simp only [Bool.and_eq_true, Bool.not_eq_true'] at O
   simp only [hop, O.1, if_true] at hok hs
   split at hs
   all_goals first
    | (simp only [reduceCtorEq] at *; done)
    | skip
   ·rename_i hargs _
    split at hs
    ·simp only [O.2, Bool.false_eq_true, if_false] at hs
     simp only [hargs] at hok
     have hx : ∀ id n, st.ev _ = .osl id n -> z1p own <= id := fun id n e => by
      rw [e] at hok
      simp only [decide_eq_true_eq] at hok
      exact hok.1
     have hn : z1p own <= st.nx := by
      split at hok
      ·simp only [decide_eq_true_eq] at hok; exact hok.2
      ·simp only [decide_eq_true_eq] at hok; exact hok
     split at hs
     ·simp only [Option.bind_eq_some_iff] at hs
      obtain ⟨⟨d1, H1, n1⟩, h1, h2⟩ := hs
      obtain ⟨g1, g2⟩ := za9 h1 hx hn
      have g3 := zkw h2 g2
      exact fun id hid => (g3 id hid).trans (g1 id hid)
     ·exact (za9 hs hx hn).1
    ·cases hs
  ·cases O
 ·subst h2; exact h0
def zuy (own : List Nat) (o : Oper) : Option Nat :=
 match o.op with
 | .store _ p _ => (zj5 p).bind fun i => z95 i own
 | .load _ _ => if z06 3000000 own o.dst = true \/ z06 6000000 own o.dst = true \/ z06 12000000 own o.dst = true then none else o.dst.bind fun i => z95 i own
 | .indexAddr _ _ _ => if z06 3000000 own o.dst = true \/ z06 6000000 own o.dst = true \/ z06 12000000 own o.dst = true then none else o.dst.bind fun i => z95 i own
 | .call { callee := .value _, .. } => if z06 5000000 own o.dst = true then none else tcM own o.dst
 | _ => none
def zc6 (own : List Nat) (o : Oper) : Bool :=
 match o.op with
 | .call { callee := .value _, .. } => !z06 5000000 own o.dst && (tcM own o.dst).isSome
 | _ => false
def zzi (own : List Nat) (o : Oper) : Bool :=
 match o.op with
 | .alloc _ => z06 7000000 own o.dst
 | _ => false
theorem z58 {own : List Nat} {ops : Array Oper} {o : Oper} {st : St} {d : D} {H : HM} {nx : Nat} (O : zc6 own o = true) (hs : z0i P own ops o st d H nx) :
  (H = st.H /\ nx = st.nx /\ ∀ H2 n2, z0i P own ops o (st.withH H2 n2) d H2 n2) \/
  ∃ k o', tcM own o.dst = some (k + 900000) /\ k < z1p own /\ z1p own <= st.nx /\ nx = st.nx /\ H = z0u st.H k o' /\ ∀ H2 n2, z1p own <= n2 -> H2 k = st.H k -> z0i P own ops o (st.withH H2 n2) d (z0u H2 k o') n2 := by
 unfold zc6 at O
 split at O
 ·rename_i f0 args0 tys0 hop0
  simp only [Bool.and_eq_true, Bool.not_eq_true'] at O
  obtain ⟨h5, ht0⟩ := O
  unfold z0i at hs
  rcases hs with ⟨hg, ⟨f, args, tys, g, cap, hop, hf, ⟨_, ht, _⟩ | ⟨h0, _⟩ | ⟨h0, hm, hac, hcb⟩⟩ | ⟨hs, hok⟩⟩ | ⟨hg, h1, h2, h3⟩
  ·rw [ht] at ht0; cases ht0
  ·rw [h5] at h0; cases h0
  ·rcases hcb with ⟨ht, _⟩ | ⟨k, o', ht, hb, hbn, hn, hH, hall⟩
   ·rw [ht] at ht0; cases ht0
   ·refine .inr ⟨k, o', ht, hb, hbn, hn, hH, fun H2 n2 hn2 hH2 => ?_⟩
    refine .inl ⟨hg, .inl ⟨f, args, tys, g, cap, hop, by rw [z19]; exact hf, .inr (.inr ⟨h0, hm, ?_, .inr ⟨k, o', ht, hb, hn2, rfl, rfl, fun H' n' h1 h2 => ?_⟩⟩)⟩⟩
    ·rw [z19]; exact hall H2 n2 hn2 hH2
    ·rw [z19]
     have h2 : H' k = H2 k := h2
     exact hall H' n' h1 (h2.trans hH2)
  ·unfold opR at hs
   rw [hop0] at hs
   cases hs
  ·exact .inl ⟨h2, h3, fun H2 n2 => .inr ⟨hg, h1, rfl, rfl⟩⟩
 ·cases O
theorem zfj {own : List Nat} {ops : Array Oper} {o : Oper} {st : St} {d : D} {H : HM} {nx : Nat} (O : zzi own o = true) (hs : z0i P own ops o st d H nx) :
  (H = st.H /\ nx = st.nx /\ ∀ H2 n2, z0i P own ops o (st.withH H2 n2) d H2 n2) \/
  ∃ q, z1p own <= st.nx /\ H = z0u st.H st.nx (some q) /\ nx = st.nx + 1 /\ ∀ H2, z0i P own ops o (st.withH H2 st.nx) d (z0u H2 st.nx (some q)) (st.nx + 1) := by
 unfold zzi at O
 split at O
 ·rename_i e hop0
  unfold z0i at hs
  rcases hs with ⟨hg, ⟨f, args, tys, g, cap, hop, _⟩ | ⟨hs, hok⟩⟩ | ⟨hg, h1, h2, h3⟩
  ·rw [hop0] at hop; cases hop
  ·refine .inr ?_
   have hw : ∀ H2, okW own o (st.withH H2 st.nx) = true := fun H2 => by
    rw [<- hok]; unfold okW; rw [hop0]; rfl
   unfold okW at hok
   rw [hop0] at hok
   simp only [O, if_true, decide_eq_true_eq] at hok
   have e1 : ∀ st : St, opR P own o st = (z11 P e).map fun zs => (.ptr st.nx 0, z0u st.H st.nx (some (.box e zs)), st.nx + 1) := fun st => by unfold opR; rw [hop0]
   rw [e1, Option.map_eq_some_iff] at hs
   obtain ⟨zs, hz, h2⟩ := hs
   simp only [Prod.mk.injEq] at h2
   obtain ⟨rfl, rfl, rfl⟩ := h2
   refine ⟨.box e zs, hok, rfl, rfl, fun H2 => .inl ⟨hg, .inr ⟨?_, hw H2⟩⟩⟩
   rw [e1, hz]; rfl
  ·exact .inl ⟨h2, h3, fun H2 n2 => .inr ⟨hg, h1, rfl, rfl⟩⟩
 ·cases O
theorem zjb {H : HM} {i j : Nat} {a b : Option HObj} (h : i ≠ j) : z0u (z0u H i a) j b = z0u (z0u H j b) i a := by
 funext k
 unfold z0u
 by_cases h1 : k = j
 ·subst h1; rw [if_pos rfl, if_neg (fun e => h e.symm), if_pos rfl]
 ·rw [if_neg h1]
  by_cases h2 : k = i
  ·rw [if_pos h2, if_pos h2]
  ·rw [if_neg h2, if_neg h2, if_neg h1]
theorem zy1 {own : List Nat} {ops : Array Oper} {x y : Oper} {st : St} {dx dy : D} {H1 H2 : HM} {n1 n2 : Nat} (hx0 : zc6 own x = true) (hy0 : zzi own y = true) (hx : z0i P own ops x st dx H1 n1) (hy : z0i P own ops y (st.withH H1 n1) dy H2 n2) :
  ∃ H3 n3, z0i P own ops y st dy H3 n3 /\ z0i P own ops x (st.withH H3 n3) dx H2 n2 := by
 rcases z58 hx0 hx with ⟨rfl, rfl, hany⟩ | ⟨k, o', _, hb, hbn, rfl, rfl, hx2⟩
 ·exact ⟨H2, n2, hy, hany H2 n2⟩
 ·rcases zfj hy0 hy with ⟨rfl, rfl, hany⟩ | ⟨q, hbn, rfl, rfl, hy2⟩
  ·exact ⟨st.H, st.nx, hany st.H st.nx, hx⟩
  ·have hbn : z1p own <= st.nx := hbn
   refine ⟨z0u st.H st.nx (some q), st.nx + 1, hy2 st.H, ?_⟩
   have := hx2 (z0u st.H st.nx (some q)) (st.nx + 1) (by omega) (by unfold z0u; rw [if_neg (by omega)])
   rw [zjb (by omega)] at this
   exact this
theorem zy2 {own : List Nat} {ops : Array Oper} {x y : Oper} {st : St} {dx dy : D} {H1 H2 : HM} {n1 n2 : Nat} (hx0 : zzi own x = true) (hy0 : zc6 own y = true) (hx : z0i P own ops x st dx H1 n1) (hy : z0i P own ops y (st.withH H1 n1) dy H2 n2) :
  ∃ H3 n3, z0i P own ops y st dy H3 n3 /\ z0i P own ops x (st.withH H3 n3) dx H2 n2 := by
 rcases zfj hx0 hx with ⟨rfl, rfl, hany⟩ | ⟨q, hbn, rfl, rfl, hx2⟩
 ·exact ⟨H2, n2, hy, hany H2 n2⟩
 ·rcases z58 hy0 hy with ⟨rfl, rfl, hany⟩ | ⟨k, o', _, hb, _, rfl, rfl, hy2⟩
  ·exact ⟨st.H, st.nx, hany st.H st.nx, hx⟩
  ·have hne : k ≠ st.nx := by omega
   have h1 := hy2 st.H st.nx hbn (by show st.H k = z0u st.H st.nx (some q) k; unfold z0u; rw [if_neg hne])
   refine ⟨z0u st.H k o', st.nx, h1, ?_⟩
   have := hx2 (z0u st.H k o')
   rw [zjb hne] at this
   exact this
theorem zjc {H H' : HM} {t : TypeId} {d : D} {id : Nat} (V : zrz d = some id) (h : H' id = H id) : z2x P H' t d = z2x P H t d := by
 cases d <;> first | (simp [zrz] at V; done) | skip
 all_goals (simp only [zrz, Option.some.injEq] at V; subst V; unfold z2x; try simp only [h])
theorem zs5 {H H' : HM} {t : TypeId} {id off : Nat} (h : H' id = H id) : z2x P H' t (.ptr id off) = z2x P H t (.ptr id off) := zjc rfl h
theorem zek {H H' : HM} {t : TypeId} {d i : D} {id : Nat} (V : zrz d = some id) (h : H' id = H id) : z0f P H' t d i = z0f P H t d i := by
 cases d <;> first | (simp [zrz] at V; done) | skip
 all_goals (simp only [zrz, Option.some.injEq] at V; subst V; cases i <;> (unfold z0f; try simp only [h]))
theorem zo9 {H H1 : HM} {t : TypeId} {d v : D} {id : Nat} (V : zrz d = some id) (h : z4e P H t d v = some H1) : (∀ j, j ≠ id -> H1 j = H j) /\ ∀ H', H' id = H id -> z4e P H' t d v = some fun j => if j = id then H1 id else H' j := by
 unfold z4e at h
 split at h
 ·rename_i vs hv
  split at h
  ·rename_i hl
   have fin : ∀ (q : Option HObj) (H' : HM), z0u H' id q = fun j => if j = id then z0u H id q id else H' j := fun q H' => by
    funext j
    unfold z0u
    by_cases h1 : j = id
    ·rw [if_pos h1, if_pos h1, if_pos rfl]
    ·rw [if_neg h1, if_neg h1]
   cases d <;> first | (simp [zrz] at V; done) | (cases h; done) | skip
   all_goals
    simp only [zrz, Option.some.injEq] at V
    subst V
    simp only at h
    split at h
    ·rename_i cs hH
     split at h
     ·rename_i hle
      simp only [Option.some.injEq] at h
      subst h
      refine ⟨fun j hj => by unfold z0u; rw [if_neg hj], fun H' hH' => ?_⟩
      unfold z4e
      simp only [hv, hH', hH, if_pos hl, if_pos hle, Option.some.injEq]
      exact fin _ H'
     ·cases h
    ·cases h
  ·cases h
 ·cases h
theorem ze1 {own : List Nat} {ops : Array Oper} {o : Oper} {st : St} {d : D} {H : HM} {nx a : Nat} (O : zuy own o = some a) (hs : z0i P own ops o st d H nx) :
  (H = st.H /\ nx = st.nx /\ ∀ H2 n2, z0i P own ops o (st.withH H2 n2) d H2 n2) \/
  ∃ id, id + 900000 = a /\ nx = st.nx /\ (∀ j, j ≠ id -> H j = st.H j) /\ ∀ H2 n2, st.nx <= n2 -> H2 id = st.H id -> z0i P own ops o (st.withH H2 n2) d (fun j => if j = id then H id else H2 j) n2 := by
 unfold zuy at O
 split at O
 ·rename_i t p v hop
  simp only [Option.bind_eq_some_iff] at O
  obtain ⟨i, hi, O⟩ := O
  unfold z0i at hs
  rcases hs with ⟨hg, ⟨f, args, tys, g, cap, hop', _⟩ | ⟨hs, hok⟩⟩ | ⟨hg, h1, h2, h3⟩
  ·rw [hop] at hop'; cases hop'
  ·refine .inr ?_
   have hw : ∀ H2 n2, okW own o (st.withH H2 n2) = true := fun H2 n2 => by
    rw [<- hok]; unfold okW; rw [hop]; rfl
   unfold okW at hok
   rw [hop] at hok
   simp only [okT, hi, O] at hok
   split at hok
   ·rename_i id he
    rw [decide_eq_true_eq] at hok
    have e : ∀ st : St, opR P own o st = (z4e P st.H t (st.ev p) (st.ev v)).map fun x => (.any, x, st.nx) := fun st => by unfold opR; rw [hop]
    rw [e, Option.map_eq_some_iff] at hs
    obtain ⟨H1, h1, h2⟩ := hs
    simp only [Prod.mk.injEq] at h2
    obtain ⟨rfl, rfl, rfl⟩ := h2
    obtain ⟨g1, g2⟩ := zo9 he h1
    refine ⟨id, hok, rfl, g1, fun H2 n2 _ hH2 => .inl ⟨hg, .inr ⟨?_, hw H2 n2⟩⟩⟩
    rw [e]
    rw [z19]
    show (z4e P H2 t (st.ev p) (st.ev v)).map _ = _
    rw [g2 H2 hH2]; rfl
   ·cases hok
  ·exact .inl ⟨h2, h3, fun H2 n2 => .inr ⟨hg, h1, rfl, rfl⟩⟩
 ·rename_i t p hop
  split at O
  ·cases O
  rename_i hm
  rw [not_or, not_or] at hm
  have hG : isG own o.dst = false := by unfold isG; simp [hm.2.2]
  replace hm : ¬ z06 3000000 own o.dst = true /\ ¬ z06 6000000 own o.dst = true := ⟨hm.1, hm.2.1⟩
  simp only [Option.bind_eq_some_iff] at O
  obtain ⟨i, hi, O⟩ := O
  unfold z0i at hs
  rcases hs with ⟨hg, ⟨f, args, tys, g, cap, hop', _⟩ | ⟨hs, hok⟩⟩ | ⟨hg, h1, h2, h3⟩
  ·rw [hop] at hop'; cases hop'
  ·refine .inr ?_
   have hw : ∀ H2 n2, okW own o (st.withH H2 n2) = true := fun H2 n2 => by
    rw [<- hok]; exact z6u hop hG
   unfold okW at hok
   rw [hop] at hok
   rw [Bool.and_eq_true, Bool.and_eq_true] at hok
   replace hok := hok.1.1
   simp only [okT, hi, O] at hok
   split at hok
   ·rename_i id he
    rw [decide_eq_true_eq] at hok
    have e : ∀ st : St, opR P own o st = st.keep (z2x P st.H t (st.ev p)) := fun st => by
     unfold opR; rw [hop]
     simp only [z8w, if_neg hm.1, if_neg hm.2]
    rw [e] at hs
    obtain ⟨h1, rfl, rfl⟩ := z0m hs
    refine ⟨id, hok, rfl, fun _ _ => rfl, fun H2 n2 _ hH2 => ?_⟩
    have e2 : (fun j => if j = id then st.H id else H2 j) = H2 := by
     funext j
     by_cases hj : j = id
     ·rw [if_pos hj, hj, hH2]
     ·rw [if_neg hj]
    rw [e2]
    refine .inl ⟨hg, .inr ⟨?_, hw H2 n2⟩⟩
    rw [e, z0q, z19]
    show (z2x P H2 t (st.ev p)).map _ = _
    rw [zjc he hH2, h1]; rfl
   ·cases hok
  ·exact .inl ⟨h2, h3, fun H2 n2 => .inr ⟨hg, h1, rfl, rfl⟩⟩
 ·rename_i t p q hop
  split at O
  ·cases O
  rename_i hm
  rw [not_or, not_or] at hm
  have hG : isG own o.dst = false := by unfold isG; simp [hm.2.2]
  replace hm : ¬ z06 3000000 own o.dst = true /\ ¬ z06 6000000 own o.dst = true := ⟨hm.1, hm.2.1⟩
  simp only [Option.bind_eq_some_iff] at O
  obtain ⟨i, hi, O⟩ := O
  unfold z0i at hs
  rcases hs with ⟨hg, ⟨f, args, tys, g, cap, hop', _⟩ | ⟨hs, hok⟩⟩ | ⟨hg, h1, h2, h3⟩
  ·rw [hop] at hop'; cases hop'
  ·refine .inr ?_
   have hw : ∀ H2 n2, okW own o (st.withH H2 n2) = true := fun H2 n2 => by
    rw [<- hok]; exact zdx hop hG
   unfold okW at hok
   rw [hop] at hok
   rw [Bool.and_eq_true, Bool.and_eq_true] at hok
   replace hok := hok.1.1
   simp only [okT, hi, O] at hok
   split at hok
   ·rename_i id he
    rw [decide_eq_true_eq] at hok
    have e : ∀ st : St, opR P own o st = st.keep (z0f P st.H t (st.ev p) (st.ev q)) := fun st => by
     unfold opR; rw [hop]
     simp only [hmG, if_neg hm.1, if_neg hm.2]
    rw [e] at hs
    obtain ⟨h1, rfl, rfl⟩ := z0m hs
    refine ⟨id, hok, rfl, fun _ _ => rfl, fun H2 n2 _ hH2 => ?_⟩
    have e2 : (fun j => if j = id then st.H id else H2 j) = H2 := by
     funext j
     by_cases hj : j = id
     ·rw [if_pos hj, hj, hH2]
     ·rw [if_neg hj]
    rw [e2]
    refine .inl ⟨hg, .inr ⟨?_, hw H2 n2⟩⟩
    rw [e, z0q, z19]
    show (z0f P H2 t (st.ev p) (st.ev q)).map _ = _
    rw [zek he hH2, h1]; rfl
   ·cases hok
  ·exact .inl ⟨h2, h3, fun H2 n2 => .inr ⟨hg, h1, rfl, rfl⟩⟩
 ·rename_i f args tys hop
  split at O
  ·cases O
  ·rename_i h5
   have ht : zc6 own o = true := by
    unfold zc6; rw [hop]; simp only [O]; simpa using h5
   rcases z58 ht hs with h | ⟨k, o', h1, _, h3, h4, h6, h7⟩
   ·exact .inl h
   ·rw [O] at h1
    cases h1
    refine .inr ⟨k, rfl, h4, fun j hj => by rw [h6]; unfold z0u; rw [if_neg hj], fun H2 n2 hn hH2 => ?_⟩
    have := h7 H2 n2 (by omega) hH2
    rw [show (fun j => if j = k then H k else H2 j) = z0u H2 k o' from by
     funext j
     unfold z0u
     by_cases e : j = k
     ·rw [if_pos e, if_pos e, h6]; unfold z0u; rw [if_pos rfl]
     ·rw [if_neg e, if_neg e]]
    exact this
 ·cases O
def zaa (own : List Nat) (o : Oper) : Bool :=
 match o.op with
 | .load .. => z06 9000000 own o.dst && !z06 3000000 own o.dst && !z06 6000000 own o.dst
 | .indexAddr .. => z06 9000000 own o.dst && !z06 3000000 own o.dst && !z06 6000000 own o.dst
 | _ => false
theorem zfk {own : List Nat} {o : Oper} (hl : zaa own o = true) : cls own o <= 1 := by
 unfold zaa at hl
 split at hl
 ·rename_i hop; unfold cls; rw [hop]; exact Nat.le_refl _
 ·rename_i hop; unfold cls; rw [hop]; simp only; split <;> omega
 ·cases hl
theorem zbt {own : List Nat} {ops : Array Oper} {o : Oper} {st : St} {d : D} {H : HM} {nx n0 : Nat} {H0 : HM} (hl : zaa own o = true) (h : ∀ id, z1p own <= id -> H id = H0 id) (hs : z0i P own ops o (st.withH H0 n0) d H0 n0) :
  z0i P own ops o (st.withH H nx) d H nx := by
 have hno : ∀ f args tys, o.op ≠ .call { callee := .value f, args := args, argTypes := tys } := fun f args tys e => by unfold zaa at hl; rw [e] at hl; cases hl
 unfold z0i at *
 rw [zdy] at *
 rcases hs with ⟨hg, ⟨f, args, tys, g, cap, hop, _⟩ | ⟨hs, hok⟩⟩ | ⟨hg, h1, _, _⟩
 ·exact (hno _ _ _ hop).elim
 ·refine .inl ⟨hg, .inr ?_⟩
  unfold zaa at hl
  split at hl
  ·rename_i t p hop
   simp only [Bool.and_eq_true, Bool.not_eq_true'] at hl
   have hG : isG own o.dst = false := by unfold isG; simp [hl.1.1]
   have hok2 : okW own o (st.withH H nx) = true := (z6u hop hG).trans ((z6u hop hG).symm.trans hok)
   refine ⟨?_, hok2⟩
   unfold okW at hok
   rw [hop] at hok
   simp only [Bool.and_eq_true, okU, hl.1.1, if_true] at hok
   replace hok := hok.1
   have e : ∀ st : St, opR P own o st = st.keep (z2x P st.H t (st.ev p)) := fun st => by
    unfold opR; rw [hop]
    simp only [z8w, hl.1.2, hl.2, Bool.false_eq_true, if_false]
   rw [e] at hs ⊢
   obtain ⟨h1, _, _⟩ := z0m hs
   rw [z0q, z19]
   rw [z19] at h1 hok
   have h1 : z2x P H0 t (st.ev p) = some d := h1
   have h2 : z2x P H t (st.ev p) = some d := by
    rw [<- h1]
    have O := hok.2
    split at O
    ·rename_i id off he
     rw [he]; exact zs5 (h id (of_decide_eq_true O))
    ·rename_i id off he
     rw [he]; rfl
    ·rename_i q he
     rw [he]; rfl
    ·rename_i q he
     rw [he]; rfl
    ·cases O
   show (z2x P H t (st.ev p)).map _ = _
   rw [h2]; rfl
  ·rename_i t x i hop
   simp only [Bool.and_eq_true, Bool.not_eq_true'] at hl
   have hG : isG own o.dst = false := by unfold isG; simp [hl.1.1]
   have hok2 : okW own o (st.withH H nx) = true := (zdx hop hG).trans ((zdx hop hG).symm.trans hok)
   refine ⟨?_, hok2⟩
   unfold okW at hok
   rw [hop] at hok
   rw [Bool.and_eq_true, Bool.and_eq_true] at hok
   replace hok := hok.1.2
   simp only [okU, hl.1.1, if_true] at hok
   have e : ∀ st : St, opR P own o st = st.keep (z0f P st.H t (st.ev x) (st.ev i)) := fun st => by
    unfold opR; rw [hop]
    simp only [hmG, hl.1.2, hl.2, Bool.false_eq_true, if_false]
   rw [e] at hs ⊢
   obtain ⟨h1, _, _⟩ := z0m hs
   rw [z0q, z19]
   rw [z19] at h1 hok
   have h1 : z0f P H0 t (st.ev x) (st.ev i) = some d := h1
   have h2 : z0f P H t (st.ev x) (st.ev i) = some d := by
    rw [<- h1]
    have O := hok
    unfold z0f
    split at O
    ·rename_i id off he
     rw [he] <;> (cases z0p P t <;> cases st.ev i <;> rfl)
    ·rename_i id off he
     rw [he]
     have hid := h id (of_decide_eq_true O)
     cases z0p P t <;> cases st.ev i <;> first | rfl | simp only [hid]
    ·rename_i q he
     rw [he] <;> (cases z0p P t <;> cases st.ev i <;> rfl)
    ·rename_i q he
     rw [he] <;> (cases z0p P t <;> cases st.ev i <;> rfl)
    ·cases O
   show (z0f P H t (st.ev x) (st.ev i)).map _ = _
   rw [h2]; rfl
  ·cases hl
 ·exact .inr ⟨hg, h1, rfl, rfl⟩
theorem zy3 {own : List Nat} {ops : Array Oper} {x y : Oper} {st : St} {dx dy : D} {H1 H2 : HM} {n1 n2 : Nat} (hx0 : zc6 own x = true) (hy0 : zaa own y = true) (hx : z0i P own ops x st dx H1 n1) (hy : z0i P own ops y (st.withH H1 n1) dy H2 n2) :
  ∃ H3 n3, z0i P own ops y st dy H3 n3 /\ z0i P own ops x (st.withH H3 n3) dx H2 n2 := by
 obtain ⟨e1, e2⟩ := z27 (zfk hy0) hy
 have e1 : H2 = H1 := e1
 have e2 : n2 = n1 := e2
 subst e1; subst e2
 rcases z58 hx0 hx with ⟨h1, h2, hany⟩ | ⟨k, o', _, hb, hbn, h2, h1, hx2⟩
 ·subst h1; subst h2
  exact ⟨st.H, st.nx, hy, hx⟩
 ·subst h1; subst h2
  refine ⟨st.H, st.nx, ?_, hx⟩
  have := zbt (H := st.H) (nx := st.nx) hy0 (fun id hid => by unfold z0u; rw [if_neg (by omega)]) hy
  exact this
theorem zy4 {own : List Nat} {ops : Array Oper} {x y : Oper} {st : St} {dx dy : D} {H1 H2 : HM} {n1 n2 : Nat} (hx0 : zaa own x = true) (hy0 : zc6 own y = true) (hx : z0i P own ops x st dx H1 n1) (hy : z0i P own ops y (st.withH H1 n1) dy H2 n2) :
  ∃ H3 n3, z0i P own ops y st dy H3 n3 /\ z0i P own ops x (st.withH H3 n3) dx H2 n2 := by
 obtain ⟨e1, e2⟩ := z27 (zfk hx0) hx
 subst e1; subst e2
 have hy' : z0i P own ops y st dy H2 n2 := hy
 rcases z58 hy0 hy' with ⟨h1, h2, hany⟩ | ⟨k, o', _, hb, hbn, h2, h1, hx2⟩
 ·subst h1; subst h2
  exact ⟨st.H, st.nx, hy', hx⟩
 ·subst h1; subst h2
  refine ⟨_, _, hy', ?_⟩
  have hx' : z0i P own ops x (st.withH st.H st.nx) dx st.H st.nx := hx
  exact zbt hx0 (fun id hid => by unfold z0u; rw [if_neg (by omega)]) hx'
def zs6 (own : List Nat) (x y : Oper) : Bool :=
 match zuy own x, zuy own y with
 | some a, some b => a != b
 | _, _ => false
theorem zoa {own : List Nat} {ops : Array Oper} {x y : Oper} {st : St} {dx dy : D} {H1 H2 : HM} {n1 n2 : Nat} (ha : zs6 own x y = true) (hx : z0i P own ops x st dx H1 n1) (hy : z0i P own ops y (st.withH H1 n1) dy H2 n2) :
  ∃ H3 n3, z0i P own ops y st dy H3 n3 /\ z0i P own ops x (st.withH H3 n3) dx H2 n2 := by
 unfold zs6 at ha
 split at ha
 ·rename_i a b ea eb
  rw [bne_iff_ne] at ha
  rcases ze1 ea hx with ⟨rfl, rfl, hany⟩ | ⟨i, hi, rfl, h1, hx2⟩
  ·exact ⟨H2, n2, hy, hany H2 n2⟩
  ·rcases ze1 eb hy with ⟨rfl, rfl, hany2⟩ | ⟨j, hj, rfl, h2, hy2⟩
   ·exact ⟨st.H, st.nx, hany2 st.H st.nx, by
     have := hx2 st.H st.nx (Nat.le_refl _) rfl
     have e : (fun j => if j = i then H2 i else st.H j) = H2 := by
      funext j
      by_cases hj : j = i
      ·rw [if_pos hj, hj]
      ·rw [if_neg hj, h1 j hj]
     rw [e] at this; exact this⟩
   ·have hne : i ≠ j := by omega
    refine ⟨fun k => if k = j then H2 j else st.H k, st.nx, hy2 st.H st.nx (Nat.le_refl _) (h1 j fun e => hne e.symm).symm, ?_⟩
    have := hx2 (fun k => if k = j then H2 j else st.H k) st.nx (Nat.le_refl _) (by rw [if_neg hne])
    have e : (fun k => if k = i then H1 i else if k = j then H2 j else st.H k) = H2 := by
     funext k
     by_cases h3 : k = i
     ·rw [if_pos h3, h3]; exact (h2 i hne).symm
     ·rw [if_neg h3]
      by_cases h4 : k = j
      ·rw [if_pos h4, h4]
      ·rw [if_neg h4, h2 k h4]; exact (h1 k h3).symm
    rw [e] at this; exact this
 ·cases ha
def z8t (own : List Nat) (ops : Array Oper) (x y : Oper) : Bool :=
 x.apart ops y && (cls own x == 0 || cls own y == 0 || (cls own x == 1 && cls own y == 1) || (z6a own x && zdz own y) || (zdz own x && z6a own y) || ((z6a own x || zj8 own x || zs2 own x) && newB own y) || (za8 own x && zja own y) || (zja own x && za8 own y) || zs6 own x y || (zc6 own x && zzi own y) || (zzi own x && zc6 own y) || (zc6 own x && zaa own y) || (zaa own x && zc6 own y))

theorem swap {own : List Nat} {ops : Array Oper} {x y : Oper} {st : St} {dx dy : D} {H1 H2 : HM} {n1 n2 : Nat} (hp : z8t own ops x y = true)
  (hx : z0i P own ops x st dx H1 n1) (hy : z0i P own ops y (st.next x dx H1 n1) dy H2 n2) :
  ∃ H3 n3, z0i P own ops y st dy H3 n3 /\ z0i P own ops x (st.next y dy H3 n3) dx H2 n2 /\ (st.next x dx H1 n1).next y dy H2 n2 = (st.next y dy H3 n3).next x dx H2 n2 := by
 simp only [z8t, Bool.and_eq_true, Bool.or_eq_true, beq_iff_eq] at hp
 obtain ⟨hap, hc⟩ := hp
 obtain ⟨ha1, ha2, ha3⟩ := Oper.apart_spec hap
 have ty : ∀ t ∈ y.looksAt ops, (st.next x dx H1 n1).t t = st.t t := fun t ht => z89 (fun e => ha1 t e ht)
 have tx : ∀ H n t, t ∈ x.looksAt ops -> st.t t = (st.next y dy H n).t t := fun H n t ht => (z89 (fun e => ha3 t e ht)).symm
 have hcomm := fun H3 n3 => zj6 (st := st) (x := x) (y := y) (dx := dx) (dy := dy) (H1 := H1) (H2 := H3) (H3 := H2) (n1 := n1) (n2 := n3) (n3 := n2) ha2
 rcases hc with (((((((((((hc | hc) | ⟨hc1, hc2⟩) | ⟨hl, O⟩) | ⟨O, hl⟩) | ⟨hl, O⟩) | ⟨hl, O⟩) | ⟨O, hl⟩) | hl) | ⟨hl, O⟩) | ⟨O, hl⟩) | ⟨hl, O⟩) | ⟨O, hl⟩
 ·-- x looks at nothing and changes nothing
  obtain ⟨rfl, rfl, hany⟩ := zfg hc hx
  refine ⟨H2, n2, z0a ty (z1m ..) (z0z ..) hy, ?_, hcomm _ _⟩
  exact z0a (st := st.withH H2 n2) (fun t ht => tx _ _ t ht) (z1m ..).symm (z0z ..).symm (hany H2 n2)
 ·obtain ⟨h1, h2, hany⟩ := zfg hc hy
  rw [z1m] at h1; rw [z0z] at h2
  subst h1; subst h2
  have hy' := hany st.H st.nx
  refine ⟨st.H, st.nx, z0a (st := (st.next x dx H2 n2).withH st.H st.nx) ty rfl rfl hy', ?_, hcomm _ _⟩
  exact z0a (fun t ht => tx _ _ t ht) (z1m ..).symm (z0z ..).symm hx
 ·obtain ⟨rfl, rfl⟩ := z27 (by omega) hx
  obtain ⟨h1, h2⟩ := z27 (by omega) hy
  rw [z1m] at h1; rw [z0z] at h2
  subst h1; subst h2
  refine ⟨st.H, st.nx, z0a ty (z1m ..) (z0z ..) hy, ?_, hcomm _ _⟩
  exact z0a (fun t ht => tx _ _ t ht) (z1m ..).symm (z0z ..).symm hx
 ·-- x looks into boxes, y leaves them
  obtain ⟨rfl, rfl⟩ := z27 (by rw [z6b hl]; omega) hx
  have hy' : z0i P own ops y st dy H2 n2 := z0a ty (z1m ..) (z0z ..) hy
  have hs := zbq O hy'
  refine ⟨H2, n2, hy', ?_, hcomm _ _⟩
  exact z0a (st := st.withH H2 n2) (fun t ht => tx _ _ t ht) (z1m ..).symm (z0z ..).symm ((z5m hl hs).1 hx)
 ·have hs := zbq O hx
  obtain ⟨h1, h2⟩ := z27 (by rw [z6b hl]; omega) hy
  rw [z1m] at h1; rw [z0z] at h2
  subst h1; subst h2
  have hy' : z0i P own ops y (st.withH H2 n2) dy H2 n2 := z0a ty (z1m ..) (z0z ..) hy
  refine ⟨st.H, st.nx, (z5m hl hs).2 hy', ?_, hcomm _ _⟩
  exact z0a (fun t ht => tx _ _ t ht) (z1m ..).symm (z0z ..).symm hx

 ·obtain ⟨rfl, rfl⟩ := z27 (by rcases hl with (hl | hl) | hl; (· rw [z6b hl]; omega); (· rw [zo7 hl]; omega); (· rw [zs3 hl]; omega)) hx
  have hy' : z0i P own ops y st dy H2 n2 := z0a ty (z1m ..) (z0z ..) hy
  have hs := zo6 O hy'
  refine ⟨H2, n2, hy', ?_, hcomm _ _⟩
  refine z0a (st := st.withH H2 n2) (fun t ht => tx _ _ t ht) (z1m ..).symm (z0z ..).symm ?_
  rcases hl with (hl | hl) | hl
  ·exact zj7 hl hs hx
  ·exact zj9 hl hs hx
  ·exact zkv hl hs hx

 ·obtain ⟨rfl, rfl⟩ := z27 (by rw [zfi hl]; omega) hx
  have hy' : z0i P own ops y st dy H2 n2 := z0a ty (z1m ..) (z0z ..) hy
  have hs := zbs O hy'
  refine ⟨H2, n2, hy', ?_, hcomm _ _⟩
  exact z0a (st := st.withH H2 n2) (fun t ht => tx _ _ t ht) (z1m ..).symm (z0z ..).symm ((zbr hl hs).1 hx)
 ·have hs := zbs O hx
  obtain ⟨h1, h2⟩ := z27 (by rw [zfi hl]; omega) hy
  rw [z1m] at h1; rw [z0z] at h2
  subst h1; subst h2
  have hy' : z0i P own ops y (st.withH H2 n2) dy H2 n2 := z0a ty (z1m ..) (z0z ..) hy
  refine ⟨st.H, st.nx, (zbr hl hs).2 hy', ?_, hcomm _ _⟩
  exact z0a (fun t ht => tx _ _ t ht) (z1m ..).symm (z0z ..).symm hx
 ·have hy' : z0i P own ops y (st.withH H1 n1) dy H2 n2 := z0a ty (z1m ..) (z0z ..) hy
  obtain ⟨H3, n3, g1, g2⟩ := zoa hl hx hy'
  exact ⟨H3, n3, g1, z0a (st := st.withH H3 n3) (fun t ht => tx _ _ t ht) (z1m ..).symm (z0z ..).symm g2, hcomm _ _⟩
 ·have hy' : z0i P own ops y (st.withH H1 n1) dy H2 n2 := z0a ty (z1m ..) (z0z ..) hy
  obtain ⟨H3, n3, g1, g2⟩ := zy1 hl O hx hy'
  exact ⟨H3, n3, g1, z0a (st := st.withH H3 n3) (fun t ht => tx _ _ t ht) (z1m ..).symm (z0z ..).symm g2, hcomm _ _⟩
 ·have hy' : z0i P own ops y (st.withH H1 n1) dy H2 n2 := z0a ty (z1m ..) (z0z ..) hy
  obtain ⟨H3, n3, g1, g2⟩ := zy2 O hl hx hy'
  exact ⟨H3, n3, g1, z0a (st := st.withH H3 n3) (fun t ht => tx _ _ t ht) (z1m ..).symm (z0z ..).symm g2, hcomm _ _⟩
 ·have hy' : z0i P own ops y (st.withH H1 n1) dy H2 n2 := z0a ty (z1m ..) (z0z ..) hy
  obtain ⟨H3, n3, g1, g2⟩ := zy3 hl O hx hy'
  exact ⟨H3, n3, g1, z0a (st := st.withH H3 n3) (fun t ht => tx _ _ t ht) (z1m ..).symm (z0z ..).symm g2, hcomm _ _⟩
 ·have hy' : z0i P own ops y (st.withH H1 n1) dy H2 n2 := z0a ty (z1m ..) (z0z ..) hy
  obtain ⟨H3, n3, g1, g2⟩ := zy4 O hl hx hy'
  exact ⟨H3, n3, g1, z0a (st := st.withH H3 n3) (fun t ht => tx _ _ t ht) (z1m ..).symm (z0z ..).symm g2, hcomm _ _⟩

def z5e (P : Program) (own : List Nat) (ops : Array Oper) (K : St -> Prop) : List Nat -> St -> Prop
 | [], st => K st
 | i :: rest, st => ∃ o d H nx, ops[i]? = some o /\ z0i P own ops o st d H nx /\ z5e P own ops K rest (st.next o d H nx)

theorem zwk {own : List Nat} {ops : Array Oper} {K : St -> Prop} {i : Nat} {oi : Oper} (hi : ops[i]? = some oi) : ∀ (r1 r2 : List Nat) (st : St),
  (∀ j ∈ r1, ∀ oj, ops[j]? = some oj -> z8t own ops oj oi = true) -> z5e P own ops K (r1 ++ i :: r2) st -> z5e P own ops K (i :: (r1 ++ r2)) st
 | [], r2, st, _, h => h
 | j :: r1, r2, st, hp, h => by
  simp only [List.cons_append, z5e] at h
  obtain ⟨oj, dj, Hj, nj, hoj, hsj, h⟩ := h
  have h' := zwk hi r1 r2 _ (fun k O => hp k (List.mem_cons_of_mem _ O)) h
  simp only [z5e] at h'
  obtain ⟨o', di, Hi, ni, hoi, hsi, h'⟩ := h'
  rw [hi] at hoi
  cases hoi
  obtain ⟨H3, n3, h1, h2, h3⟩ := swap (hp j (by simp) oj hoj) hsj hsi
  simp only [List.cons_append, z5e]
  exact ⟨oi, di, H3, n3, hi, h1, oj, dj, Hi, ni, hoj, h2, by rw [<- h3]; exact h'⟩

def zob (ops : Array Oper) : Nat -> Nat -> Nat -> Bool
 | 0, _, _ => false
 | n + 1, j, i => match ops[i]? with
  | some o => o.after.toList.any fun e => Region.binds .any e && (e.on == j || (decide (j < e.on) && zob ops n j e.on))
  | none => false
def zfl (own : List Nat) (ops : Array Oper) : Bool :=
 (List.range ops.size).all fun i => match ops[i]? with
  | none => true
  | some oi => (oi.after.toList.all fun e => !Region.binds .any e || decide (e.on < i)) &&
   (List.range i).all fun j => match ops[j]? with
    | some oj => z8t own ops oj oi || zob ops ops.size j i
    | none => true

def zfm (ops : Array Oper) (listed : Array Bool) : Prop :=
 ∀ k o, ops[k]? = some o -> listed.getD k true = true -> ∀ e ∈ o.after.toList, Region.binds .any e = true -> listed.getD e.on false = true

theorem z7r {ops : Array Oper} {listed : Array Bool} (hsz : listed.size = ops.size) (hc : zfm ops listed) : ∀ (n j i : Nat), zob ops n j i = true ->
  (∀ o, ops[i]? = some o -> ∀ e ∈ o.after.toList, Region.binds .any e = true -> listed.getD e.on false = true) -> listed.getD j false = true
 | 0, j, i, h, _ => by cases h
 | n + 1, j, i, h, hi => by
  simp only [zob] at h
  split at h
  ·rename_i o ho
   obtain ⟨e, he, hb⟩ := List.any_eq_true.1 h
   simp only [Bool.and_eq_true, Bool.or_eq_true, beq_iff_eq, decide_eq_true_eq] at hb
   obtain ⟨hb1, hb2⟩ := hb
   have hl := hi o ho e he hb1
   rcases hb2 with rfl | ⟨_, hr⟩
   ·exact hl
   ·refine z7r hsz hc n j e.on hr fun o' ho' => hc e.on o' ho' ?_
    have hlt : e.on < ops.size := (Array.getElem?_eq_some_iff.1 ho').1
    simp only [Array.getD_eq_getD_getElem?] at hl ⊢
    rw [Array.getElem?_eq_getElem (by omega)] at hl ⊢
    simpa using hl
  ·cases h

def rem (ops : Array Oper) (listed : Array Bool) : List Nat := (List.range ops.size).filter fun i => !listed.getD i true

theorem z7s {p : Nat -> Bool} : ∀ (l : List Nat) (i : Nat), l.Pairwise (· < ·) -> i ∈ l -> p i = true -> ∃ r1 r2, l.filter p = r1 ++ i :: r2 /\ l.filter (fun k => p k && k != i) = r1 ++ r2 /\ ∀ j ∈ r1, j < i /\ p j = true
 | [], i, _, hi, _ => by cases hi
 | a :: l, i, hs, hi, hp => by
  have hs' := List.pairwise_cons.1 hs
  rcases List.mem_cons.1 hi with rfl | hi
  ·refine ⟨[], l.filter p, by simp [hp], ?_, by simp⟩
   simp only [List.filter_cons, hp, bne_self_eq_false, Bool.and_false, Bool.false_eq_true, if_false, List.nil_append]
   refine List.filter_congr fun k O => ?_
   have : k ≠ i := by have := hs'.1 k O; omega
   simp [this]
  ·obtain ⟨r1, r2, h1, h2, h3⟩ := z7s l i hs'.2 hi hp
   have hai : a < i := hs'.1 i hi
   have hne : (a != i) = true := by simp; omega
   by_cases hpa : p a = true
   ·refine ⟨a :: r1, r2, by simp [hpa, h1], by simp [hpa, hne, h2], fun j hj => ?_⟩
    rcases List.mem_cons.1 hj with rfl | hj
    ·exact ⟨hai, hpa⟩
    ·exact h3 j hj
   ·refine ⟨r1, r2, by simp [hpa, h1], by simp [hpa, h2], h3⟩

theorem z24 (l : Array Bool) (i k : Nat) : (l.setIfInBounds i true).getD k true = (l.getD k true || k == i) := by
 simp only [Array.getD_eq_getD_getElem?, Array.getElem?_setIfInBounds]
 by_cases h : i = k
 ·subst h
  by_cases h2 : i < l.size <;> simp [h2]
 ·have : (k == i) = false := by simp; omega
  simp [h, this]
theorem zab (l : Array Bool) (i k : Nat) : l.getD k false = true -> (l.setIfInBounds i true).getD k false = true := by
 simp only [Array.getD_eq_getD_getElem?, Array.getElem?_setIfInBounds]
 by_cases h : i = k
 ·subst h
  by_cases h2 : i < l.size <;> simp [h2]
 ·simp [h]

theorem zkx {own : List Nat} {ops : Array Oper} {o : Oper} {st : St} {d : D} {H : HM} {nx : Nat} (hg : z67 ops st o = some true) (hs : z0i P own ops o st d H nx) : opW P own o st (fun st' => st' = st.next o d H nx) := by
 unfold z0i at hs
 rcases hs with ⟨_, hs⟩ | ⟨hg2, _⟩
 ·rcases hs with ⟨f, args, tys, g, cap, hop, hf, ⟨_, _, hrc, rfl, rfl⟩ | ⟨_, hrc, rfl, rfl⟩ | ⟨_, _, hac, _⟩⟩ | hs
  ·unfold opW
   rw [hop]
   simp only [hf]
   exact AC.mono hrc.1 fun r H nx ⟨h1, h2, h3⟩ => by subst h1; subst h2; subst h3; rfl
  ·unfold opW
   rw [hop]
   simp only [hf]
   exact AC.mono (hrc _ _) fun r H nx ⟨h1, h2, h3⟩ => by subst h1; subst h2; subst h3; rfl
  ·unfold opW
   rw [hop]
   simp only [hf]
   exact AC.mono hac fun r H nx ⟨h1, h2, h3⟩ => by subst h1; subst h2; subst h3; rfl
  ·obtain ⟨hs, _⟩ := hs
   unfold opW
   split
   ·rename_i f args tys hop
    unfold opR at hs
    rw [hop] at hs
    cases hs
   ·rw [hs]; rfl
 ·rw [hg] at hg2; cases hg2

theorem z42 {N : Nat} {own : List Nat} {ops : Array Oper} {Q : Exit -> Act -> World -> Prop} {i : Nat} {o : Oper} {st : St} {s : RS} {a : Act} {w : World} {d : D} {H : HM} {nx : Nat} {R : Act -> World -> Prop}
  (ho : ops[i]? = some o) (hdo : z31 N o = true) (hf : Fr P N st s a w) (hstep : z0i P own ops o st d H nx)
  (hR : ∀ s' a' w', Fr P N (st.next o d H nx) s' a' w' -> Step s w s' w' -> R a' w') : wpOp P ops Q i R a w := by
 unfold wpOp
 rw [ho]
 simp only
 have hstep' := hstep
 unfold z0i at hstep'
 rcases hstep' with ⟨hg, _⟩ | ⟨hg, rfl, rfl, rfl⟩
 ·rw [if_pos (z36 hf hg)]
  refine .inl (zdv hf hdo (zkx hg hstep) fun st' s' a' w' hst hf' hs' => ?_)
  subst hst
  exact hR s' a' w' hf' hs'
 ·rw [if_neg (by rw [z36 hf hg]; simp)]
  exact hR s _ w (hf.put0 hdo zdu) (Step.refl s w)
theorem z2d {own : List Nat} {ops : Array Oper} {K : St -> Prop} : ∀ (l1 l2 : List Nat) (st : St), z5e P own ops K (l1 ++ l2) st = z5e P own ops (z5e P own ops K l2) l1 st
 | [], l2, st => rfl
 | i :: l1, l2, st => by
  simp only [List.cons_append, z5e, z2d l1 l2]
theorem z47 {own : List Nat} {ops : Array Oper} {K K' : St -> Prop} (h : ∀ st, K st -> K' st) : ∀ (l : List Nat) (st : St), z5e P own ops K l st -> z5e P own ops K' l st
 | [], st, O => h st O
 | i :: l, st, ⟨o, d, H, nx, h1, h2, h3⟩ => ⟨o, d, H, nx, h1, h2, z47 h l _ h3⟩
def zuz (o : Oper) : Bool := match o.op with | .call { callee := .value _, .. } => true | _ => false
theorem zs7 {own : List Nat} {ops : Array Oper} {o : Oper} {st : St} {d d' : D} {H H' : HM} {n n' : Nat} (hc : zuz o = false) (h : z0i P own ops o st d H n) (h' : z0i P own ops o st d' H' n') : d = d' /\ H = H' /\ n = n' := by
 unfold z0i at h h'
 have key : ∀ {p : Prop} {f args tys g cap}, (o.op = .call { callee := .value f, args := args, argTypes := tys } /\ st.ev f = .fn g cap /\ p) -> False := by
  intro p f args tys g cap ⟨e, _⟩
  unfold zuz at hc
  rw [e] at hc
  cases hc
 rcases h with ⟨hg, ⟨f, args, tys, g, cap, h1⟩ | ⟨h1, _⟩⟩ | ⟨hg, rfl, rfl, rfl⟩
 ·exact (key h1).elim
 ·rcases h' with ⟨hg', ⟨f, args, tys, g, cap, h2⟩ | ⟨h2, _⟩⟩ | ⟨hg', _⟩
  ·exact (key h2).elim
  ·rw [h1] at h2; cases h2; exact ⟨rfl, rfl, rfl⟩
  ·rw [hg] at hg'; cases hg'
 ·rcases h' with ⟨hg', _⟩ | ⟨hg', rfl, rfl, rfl⟩
  ·rw [hg] at hg'; cases hg'
  ·exact ⟨rfl, rfl, rfl⟩
def forkK (P : Program) (own : List Nat) (ops : Array Oper) (K : St -> Prop) (a : Nat) (p : List Nat) (st : St) : Prop := z5e P own ops K (a :: (a + 1) :: p) st /\ z5e P own ops K ((a + 1) :: a :: p) st
def zaz (own : List Nat) (ops : Array Oper) (a : Nat) : Bool :=
 (List.range ops.size).all fun i => match ops[i]? with
  | none => true
  | some oi => (oi.after.toList.all fun e => !Region.binds .any e || decide (e.on < i)) && (decide (i <= a + 1) || !zuz oi) &&
   (List.range i).all fun j => match ops[j]? with
    | some oj => (decide (j = a) && decide (i = a + 1)) || (z8t own ops oj oi || zob ops ops.size j i)
    | none => true
theorem zjd {own : List Nat} {ops : Array Oper} {x : Nat} {listed : Array Bool} (hok : zaz own ops x = true) (hsz : listed.size = ops.size) (hr : Region.ready .any ops listed = []) : rem ops listed = [] := by
 cases hrem : rem ops listed with
 | nil => rfl
 | cons i r =>
  exfalso
  have hmem : ∀ k, k ∈ rem ops listed ↔ k < ops.size /\ listed.getD k true = false := by
   intro k; simp only [rem, List.mem_filter, List.mem_range, Bool.not_eq_true']
  have hi := (hmem i).1 (by rw [hrem]; simp)
  have hmin : ∀ k, k < i -> listed.getD k true = true := by
   intro k O
   cases hl : listed.getD k true with
   | true => rfl
   | false =>
    have hk' := (hmem k).2 ⟨by omega, hl⟩
    have hpw : (rem ops listed).Pairwise (· < ·) := List.Pairwise.filter _ List.pairwise_lt_range
    rw [hrem] at hk' hpw
    rcases List.mem_cons.1 hk' with rfl | hk'
    ·omega
    ·have := (List.pairwise_cons.1 hpw).1 k hk'; omega
  have : i ∈ Region.ready .any ops listed := by
   simp only [Region.ready, List.mem_filter, List.mem_range, Bool.and_eq_true, Bool.not_eq_true']
   refine ⟨hi.1, hi.2, ?_⟩
   have hoi := Array.getElem?_eq_getElem hi.1
   rw [hoi]
   simp only [Option.map_some, Option.getD_some, Array.all_eq_true']
   intro e he
   have h1 := List.all_eq_true.1 hok i (by simpa using hi.1)
   rw [hoi] at h1
   simp only [Bool.and_eq_true] at h1
   have h2 := List.all_eq_true.1 h1.1.1 e (by simpa using he)
   simp only [Bool.or_eq_true, Bool.not_eq_true', decide_eq_true_eq] at h2 ⊢
   rcases h2 with h2 | h2
   ·exact .inl h2
   ·refine .inr ?_
    have h3 := hmin e.on h2
    have hlt : e.on < listed.size := by omega
    simp only [Array.getD_eq_getD_getElem?, Array.getElem?_eq_getElem hlt, Option.getD_some] at h3 ⊢
    exact h3
  rw [hr] at this; cases this
theorem zb0 {N x : Nat} {own : List Nat} {ops : Array Oper} {K : St -> Prop} {Q : Exit -> Act -> World -> Prop} (hok : zaz own ops x = true) (hdst : ∀ (i : Nat) o, ops[i]? = some o -> z31 N o = true) :
  ∀ (fuel : Nat) (listed : Array Bool) (st : St) (s : RS) (a : Act) (w : World), (rem ops listed).length <= fuel -> listed.size = ops.size -> zfm ops listed -> (listed.getD x true = true \/ listed.getD (x + 1) true = true) -> z5e P own ops K (rem ops listed) st -> Fr P N st s a w ->
  (∀ st' s' a' w', K st' -> Fr P N st' s' a' w' -> Step s w s' w' -> Q .normal a' w') -> wpAny P .any ops Q fuel listed a w := by
 have hready : ∀ listed i, i ∈ Region.ready .any ops listed -> i < ops.size /\ listed.getD i true = false /\ ∀ o, ops[i]? = some o -> ∀ e ∈ o.after.toList, Region.binds .any e = true -> listed.getD e.on false = true := by
  intro listed i hi
  simp only [Region.ready, List.mem_filter, List.mem_range, Bool.and_eq_true, Bool.not_eq_true'] at hi
  obtain ⟨h1, h2, h3⟩ := hi
  refine ⟨h1, h2, fun o ho e he hb => ?_⟩
  rw [ho] at h3
  simp only [Option.map_some, Option.getD_some, Array.all_eq_true'] at h3
  have := h3 e (by simpa using he)
  simpa [hb] using this
 have hfirst := fun listed hsz hr => zjd (listed := listed) hok hsz hr
 intro fuel
 induction fuel with
 | zero =>
  intro listed st s a w hlen _ _ _ hrun hf O
  have h0 : rem ops listed = [] := List.eq_nil_of_length_eq_zero (by omega)
  rw [h0] at hrun
  refine ⟨?_, O st s a w hrun hf (Step.refl s w)⟩
  cases hr : Region.ready .any ops listed with
  | nil => rfl
  | cons i r =>
   have := hready listed i (by rw [hr]; simp)
   have hm : i ∈ rem ops listed := List.mem_filter.2 ⟨by simpa using this.1, by rw [this.2.1]; rfl⟩
   rw [h0] at hm; cases hm
 | succ fuel ih =>
  intro listed st s a w hlen hsz hclosed hx hrun hf O
  refine ⟨fun hr => ?_, fun i hi => ?_⟩
  ·rw [hfirst listed hsz hr] at hrun
   exact O st s a w hrun hf (Step.refl s w)
  ·obtain ⟨h1, h2, h3⟩ := hready listed i hi
   have hoi := Array.getElem?_eq_getElem h1
   obtain ⟨r1, r2, e1, e2, e3⟩ := z7s (p := fun k => !listed.getD k true) (List.range ops.size) i List.pairwise_lt_range (by simpa using h1) (by rw [h2]; rfl)
   have hrem : rem ops listed = r1 ++ i :: r2 := e1
   have hrem' : rem ops (listed.setIfInBounds i true) = r1 ++ r2 := by
    rw [<- e2]
    refine List.filter_congr fun k _ => ?_
    rw [z24]
    cases listed.getD k true <;> simp [bne]
   rw [hrem] at hrun
   have hpull := zwk hoi r1 r2 st (fun j hj oj hoj => by
    obtain ⟨hji, hjl⟩ := e3 j hj
    have g1 := List.all_eq_true.1 hok i (by simpa using h1)
    rw [hoi] at g1
    simp only [Bool.and_eq_true] at g1
    have g2 := List.all_eq_true.1 g1.2 j (by simpa using hji)
    rw [hoj] at g2
    simp only [Bool.or_eq_true, Bool.and_eq_true, decide_eq_true_eq] at g2
    rcases g2 with ⟨rfl, rfl⟩ | g2 | g2
    ·exfalso
     simp only [Bool.not_eq_true'] at hjl
     rcases hx with h | h
     ·rw [hjl] at h; cases h
     ·rw [h2] at h; cases h
    ·exact g2
    ·exfalso
     have := z7r hsz hclosed _ _ _ g2 h3
     simp only [Bool.not_eq_true'] at hjl
     have hlt : j < listed.size := by omega
     simp only [Array.getD_eq_getD_getElem?, Array.getElem?_eq_getElem hlt, Option.getD_some] at this hjl
     rw [this] at hjl; cases hjl) hrun
   simp only [z5e] at hpull
   obtain ⟨o, d, H, nx, ho, hstep, hrest⟩ := hpull
   have hclosed' : zfm ops (listed.setIfInBounds i true) := by
    intro k ok hk' hl e he hb
    rw [z24] at hl
    simp only [Bool.or_eq_true, beq_iff_eq] at hl
    rcases hl with hl | rfl
    ·exact zab _ _ _ (hclosed k ok hk' hl e he hb)
    ·exact zab _ _ _ (h3 ok hk' e he hb)
   have hlen' : (rem ops (listed.setIfInBounds i true)).length <= fuel := by
    rw [hrem'] ; rw [hrem] at hlen; simp only [List.length_append, List.length_cons] at hlen ⊢; omega
   have hx' : (listed.setIfInBounds i true).getD x true = true \/ (listed.setIfInBounds i true).getD (x + 1) true = true := by
    rw [z24, z24]
    rcases hx with h | h
    ·exact .inl (by rw [h]; rfl)
    ·exact .inr (by rw [h]; rfl)
   exact z42 ho (hdst i o ho) hf hstep fun s' a' w' hf' hs' => ih _ _ s' a' w' hlen' (by simpa using hsz) hclosed' hx' (by rw [hrem']; exact hrest) hf' fun st2 s2 a2 w2 hK2 hf2 hs2 => O st2 s2 a2 w2 hK2 hf2 (hs'.trans hs2)
def loL (listed : Array Bool) (a : Nat) : List Nat := (List.range a).filter fun i => !listed.getD i true
def hiL (listed : Array Bool) (a n : Nat) : List Nat := (List.range' (a + 2) (n - (a + 2))).filter fun i => !listed.getD i true
theorem zje {ops : Array Oper} {listed : Array Bool} {a : Nat} (ha : a + 1 < ops.size) : rem ops listed = loL listed a ++ (([a, a + 1].filter fun i => !listed.getD i true) ++ hiL listed a ops.size) := by
 have h : List.range ops.size = List.range a ++ ([a, a + 1] ++ List.range' (a + 2) (ops.size - (a + 2))) := by
  obtain ⟨m, hm⟩ : ∃ m, ops.size = a + (2 + m) := ⟨ops.size - (a + 2), by omega⟩
  rw [hm, List.range_eq_range', List.range_eq_range', <- List.range'_append_1, <- List.range'_append_1, show a + (2 + m) - (a + 2) = m from by omega]
  simp [List.range']
 unfold rem loL hiL
 rw [h, List.filter_append, List.filter_append]
theorem z4t {listed : Array Bool} {l : List Nat} {i : Nat} (h : i ∉ l) : (l.filter fun k => !(listed.setIfInBounds i true).getD k true) = l.filter fun k => !listed.getD k true := by
 refine List.filter_congr fun k O => ?_
 rw [z24, beq_false_of_ne (show k ≠ i from fun e => h (by rw [<- e]; exact O)), Bool.or_false]
theorem zb1 {listed : Array Bool} {l : List Nat} {i : Nat} (hs : l.Pairwise (· < ·)) (hi : i ∈ l) (hl : listed.getD i true = false) :
  ∃ r1 r2, (l.filter fun k => !listed.getD k true) = r1 ++ i :: r2 /\ (l.filter fun k => !(listed.setIfInBounds i true).getD k true) = r1 ++ r2 /\ ∀ j ∈ r1, j < i /\ j ∈ l /\ listed.getD j true = false := by
 obtain ⟨r1, r2, e1, e2, e3⟩ := z7s (p := fun k => !listed.getD k true) l i hs hi (by rw [hl]; rfl)
 refine ⟨r1, r2, e1, ?_, fun j hj => ?_⟩
 ·rw [<- e2]
  refine List.filter_congr fun k _ => ?_
  rw [z24]
  cases listed.getD k true <;> simp [bne]
 ·have hm : j ∈ l.filter fun k => !listed.getD k true := by rw [e1]; exact List.mem_append_left _ hj
  obtain ⟨h1, h2⟩ := List.mem_filter.1 hm
  exact ⟨(e3 j hj).1, h1, by simpa using h2⟩
theorem pullK {own : List Nat} {ops : Array Oper} {K1 K2 : St -> Prop} {i : Nat} {oi : Oper} (hi : ops[i]? = some oi) (r : List Nat) (st : St)
  (hp : ∀ j ∈ r, ∀ oj, ops[j]? = some oj -> z8t own ops oj oi = true) (O : ∀ st, K1 st -> z5e P own ops K2 [i] st) (h : z5e P own ops K1 r st) : z5e P own ops K2 (i :: r) st := by
 have h1 := z47 O r st h
 rw [<- z2d] at h1
 have := zwk hi r [] st hp h1
 rwa [List.append_nil] at this
theorem zv0 {N a0 : Nat} {own : List Nat} {ops : Array Oper} {K : St -> Prop} {Q : Exit -> Act -> World -> Prop} (hok : zaz own ops a0 = true) (ha : a0 + 1 < ops.size) (hdst : ∀ (i : Nat) o, ops[i]? = some o -> z31 N o = true) :
  ∀ (fuel : Nat) (listed : Array Bool) (st : St) (s : RS) (a : Act) (w : World), (rem ops listed).length <= fuel -> listed.size = ops.size -> zfm ops listed -> listed.getD a0 true = false -> listed.getD (a0 + 1) true = false ->
   z5e P own ops (forkK P own ops K a0 (hiL listed a0 ops.size)) (loL listed a0) st -> Fr P N st s a w ->
  (∀ st' s' a' w', K st' -> Fr P N st' s' a' w' -> Step s w s' w' -> Q .normal a' w') -> wpAny P .any ops Q fuel listed a w := by
 have hready : ∀ listed i, i ∈ Region.ready .any ops listed -> i < ops.size /\ listed.getD i true = false /\ ∀ o, ops[i]? = some o -> ∀ e ∈ o.after.toList, Region.binds .any e = true -> listed.getD e.on false = true := by
  intro listed i hi
  simp only [Region.ready, List.mem_filter, List.mem_range, Bool.and_eq_true, Bool.not_eq_true'] at hi
  obtain ⟨h1, h2, h3⟩ := hi
  refine ⟨h1, h2, fun o ho e he hb => ?_⟩
  rw [ho] at h3
  simp only [Option.map_some, Option.getD_some, Array.all_eq_true'] at h3
  have := h3 e (by simpa using he)
  simpa [hb] using this
 intro fuel
 induction fuel with
 | zero =>
  intro listed st s a w hlen _ _ hx hy hrun hf O
  have h0 : rem ops listed = [] := List.eq_nil_of_length_eq_zero (by omega)
  have hm : a0 ∈ rem ops listed := List.mem_filter.2 ⟨by simp; omega, by rw [hx]; rfl⟩
  rw [h0] at hm; cases hm
 | succ fuel ih =>
  intro listed st s a w hlen hsz hclosed hx hy hrun hf O
  refine ⟨fun hr => ?_, fun i hi => ?_⟩
  ·exfalso
   have hm : a0 ∈ rem ops listed := List.mem_filter.2 ⟨by simp; omega, by rw [hx]; rfl⟩
   rw [zjd hok hsz hr] at hm; cases hm
  ·obtain ⟨h1, h2, h3⟩ := hready listed i hi
   have hoi := Array.getElem?_eq_getElem h1
   have hne : ∀ {j}, listed.getD j true = false -> j < ops.size -> zob ops ops.size j i = true -> False := fun {j} hjl hj g => by
    have := z7r hsz hclosed _ _ _ g h3
    have hlt : j < listed.size := by omega
    simp only [Array.getD_eq_getD_getElem?, Array.getElem?_eq_getElem hlt, Option.getD_some] at this hjl
    rw [this] at hjl; cases hjl
   have hg1 := List.all_eq_true.1 hok i (by simpa using h1)
   rw [hoi] at hg1
   simp only [Bool.and_eq_true] at hg1
   have hpair : ∀ j, j < i -> ¬ (j = a0 /\ i = a0 + 1) -> listed.getD j true = false -> ∀ oj, ops[j]? = some oj -> z8t own ops oj ops[i] = true := by
    intro j hji hne2 hjl oj hoj
    have g2 := List.all_eq_true.1 hg1.2 j (by simpa using hji)
    rw [hoj] at g2
    simp only [Bool.or_eq_true, Bool.and_eq_true, decide_eq_true_eq] at g2
    rcases g2 with g2 | g2 | g2
    ·exact (hne2 g2).elim
    ·exact g2
    ·exact (hne hjl (by omega) g2).elim
   have hclosed' : zfm ops (listed.setIfInBounds i true) := by
    intro k ok hk' hl e he hb
    rw [z24] at hl
    simp only [Bool.or_eq_true, beq_iff_eq] at hl
    rcases hl with hl | rfl
    ·exact zab _ _ _ (hclosed k ok hk' hl e he hb)
    ·exact zab _ _ _ (h3 ok hk' e he hb)
   have hlen' : (rem ops (listed.setIfInBounds i true)).length <= fuel := by
    obtain ⟨r1, r2, e1, e2, _⟩ := zb1 (l := List.range ops.size) (listed := listed) List.pairwise_lt_range (by simpa using h1) h2
    have e1 : rem ops listed = r1 ++ i :: r2 := e1
    have e2 : rem ops (listed.setIfInBounds i true) = r1 ++ r2 := e2
    rw [e2]; rw [e1] at hlen; simp only [List.length_append, List.length_cons] at hlen ⊢; omega
   have hlo : ∀ j ∈ loL listed a0, j < a0 /\ listed.getD j true = false := fun j hj => by
    obtain ⟨g1, g2⟩ := List.mem_filter.1 hj
    exact ⟨by simpa using g1, by simpa using g2⟩
   by_cases c1 : i < a0
   ·obtain ⟨r1, r2, e1, e2, e3⟩ := zb1 (l := List.range a0) (listed := listed) List.pairwise_lt_range (by simpa using c1) h2
    have e1 : loL listed a0 = r1 ++ i :: r2 := e1
    have e2 : loL (listed.setIfInBounds i true) a0 = r1 ++ r2 := e2
    rw [e1] at hrun
    obtain ⟨o, d, H, nx, ho, hstep, hrest⟩ := zwk hoi r1 r2 st (fun j hj => hpair j (e3 j hj).1 (by omega) (e3 j hj).2.2) hrun
    have hh : hiL (listed.setIfInBounds i true) a0 ops.size = hiL listed a0 ops.size := z4t (by simp; omega)
    exact z42 ho (hdst i o ho) hf hstep fun s' a' w' hf' hs' => ih _ _ s' a' w' hlen' (by simpa using hsz) hclosed' (by rw [z24, hx, beq_false_of_ne (by omega)]; rfl) (by rw [z24, hy, beq_false_of_ne (by omega)]; rfl)
     (by rw [hh, e2]; exact hrest) hf' fun st2 s2 a2 w2 hK2 hf2 hs2 => O st2 s2 a2 w2 hK2 hf2 (hs'.trans hs2)
   by_cases c2 : i = a0
   ·have hh : hiL (listed.setIfInBounds i true) a0 ops.size = hiL listed a0 ops.size := z4t (by simp; omega)
    have hl : loL (listed.setIfInBounds i true) a0 = loL listed a0 := z4t (by simp; omega)
    have hrun2 : z5e P own ops K (loL listed a0 ++ i :: (a0 + 1) :: hiL listed a0 ops.size) st := by
     rw [z2d, c2]
     exact z47 (fun _ h => h.1) _ _ hrun
    obtain ⟨o, d, H, nx, ho, hstep, hrest⟩ := zwk hoi _ _ st (fun j hj => hpair j (by have := hlo j hj; omega) (by omega) (hlo j hj).2) hrun2
    have hr : rem ops (listed.setIfInBounds i true) = loL listed a0 ++ (a0 + 1) :: hiL listed a0 ops.size := by
     rw [zje ha, hh, hl]
     simp only [List.filter_cons, List.filter_nil, z24, hx, hy, c2, beq_self_eq_true, Bool.or_true, Bool.not_true]
     rw [beq_false_of_ne (show a0 + 1 ≠ a0 by omega)]
     rfl
    exact z42 ho (hdst i o ho) hf hstep fun s' a' w' hf' hs' => zb0 hok hdst _ _ _ s' a' w' hlen' (by simpa using hsz) hclosed' (.inl (by rw [z24, c2]; simp))
     (by rw [hr]; exact hrest) hf' fun st2 s2 a2 w2 hK2 hf2 hs2 => O st2 s2 a2 w2 hK2 hf2 (hs'.trans hs2)
   by_cases c3 : i = a0 + 1
   ·have hh : hiL (listed.setIfInBounds i true) a0 ops.size = hiL listed a0 ops.size := z4t (by simp; omega)
    have hl : loL (listed.setIfInBounds i true) a0 = loL listed a0 := z4t (by simp; omega)
    have hrun2 : z5e P own ops K (loL listed a0 ++ i :: a0 :: hiL listed a0 ops.size) st := by
     rw [z2d, c3]
     exact z47 (fun _ h => h.2) _ _ hrun
    obtain ⟨o, d, H, nx, ho, hstep, hrest⟩ := zwk hoi _ _ st (fun j hj => hpair j (by have := hlo j hj; omega) (by have := hlo j hj; omega) (hlo j hj).2) hrun2
    have hr : rem ops (listed.setIfInBounds i true) = loL listed a0 ++ a0 :: hiL listed a0 ops.size := by
     rw [zje ha, hh, hl]
     simp only [List.filter_cons, List.filter_nil, z24, hx, hy, c3, beq_self_eq_true, Bool.or_true, Bool.not_true]
     rw [beq_false_of_ne (show a0 ≠ a0 + 1 by omega)]
     rfl
    exact z42 ho (hdst i o ho) hf hstep fun s' a' w' hf' hs' => zb0 hok hdst _ _ _ s' a' w' hlen' (by simpa using hsz) hclosed' (.inr (by rw [z24, c3]; simp))
     (by rw [hr]; exact hrest) hf' fun st2 s2 a2 w2 hK2 hf2 hs2 => O st2 s2 a2 w2 hK2 hf2 (hs'.trans hs2)
   ·have hcall : zuz ops[i] = false := by
     have := hg1.1.2
     simp only [Bool.or_eq_true, decide_eq_true_eq, Bool.not_eq_true'] at this
     rcases this with g | g
     ·omega
     ·exact g
    obtain ⟨p1, p2, e1, e2, e3⟩ := zb1 (l := List.range' (a0 + 2) (ops.size - (a0 + 2))) (listed := listed) List.pairwise_lt_range' (by simp; omega) h2
    have e1 : hiL listed a0 ops.size = p1 ++ i :: p2 := e1
    have e2 : hiL (listed.setIfInBounds i true) a0 ops.size = p1 ++ p2 := e2
    have hl : loL (listed.setIfInBounds i true) a0 = loL listed a0 := z4t (by simp; omega)
    have hp1 : ∀ j ∈ p1, ∀ oj, ops[j]? = some oj -> z8t own ops oj ops[i] = true := fun j hj => hpair j (e3 j hj).1 (by omega) (e3 j hj).2.2
    have hpa := hpair a0 (by omega) (by omega) hx
    have hpb := hpair (a0 + 1) (by omega) (by omega) hy
    rw [e1] at hrun
    obtain ⟨o, d, H, nx, ho, hstep, hrest⟩ := pullK (K2 := forkK P own ops K a0 (p1 ++ p2)) hoi _ st (fun j hj => hpair j (by have := hlo j hj; omega) (by have := hlo j hj; omega) (hlo j hj).2) (fun st1 ⟨f1, f2⟩ => by
     have g1 := zwk hoi (a0 :: (a0 + 1) :: p1) p2 st1 (fun j hj => by
      rcases List.mem_cons.1 hj with rfl | hj
      ·exact hpa
      rcases List.mem_cons.1 hj with rfl | hj
      ·exact hpb
      ·exact hp1 j hj) f1
     have g2 := zwk hoi ((a0 + 1) :: a0 :: p1) p2 st1 (fun j hj => by
      rcases List.mem_cons.1 hj with rfl | hj
      ·exact hpb
      rcases List.mem_cons.1 hj with rfl | hj
      ·exact hpa
      ·exact hp1 j hj) f2
     obtain ⟨o, d, H, n, ho, hs, hr⟩ := g1
     obtain ⟨o', d', H', n', ho', hs', hr'⟩ := g2
     rw [hoi] at ho ho'
     cases ho; cases ho'
     obtain ⟨rfl, rfl, rfl⟩ := zs7 hcall hs hs'
     exact ⟨_, d, H, n, hoi, hs, hr, hr'⟩) hrun
    exact z42 ho (hdst i o ho) hf hstep fun s' a' w' hf' hs' => ih _ _ s' a' w' hlen' (by simpa using hsz) hclosed' (by rw [z24, hx, beq_false_of_ne (by omega)]; rfl) (by rw [z24, hy, beq_false_of_ne (by omega)]; rfl)
     (by rw [hl, e2]; exact hrest) hf' fun st2 s2 a2 w2 hK2 hf2 hs2 => O st2 s2 a2 w2 hK2 hf2 (hs'.trans hs2)
theorem zv1 {own : List Nat} {ops : Array Oper} (h : zfl own ops = true) : zaz own ops ops.size = true := by
 unfold zaz
 refine List.all_eq_true.2 fun i hi => ?_
 have g := List.all_eq_true.1 h i hi
 have hi : i < ops.size := by simpa using hi
 rw [Array.getElem?_eq_getElem hi] at g ⊢
 simp only [Bool.and_eq_true] at g ⊢
 refine ⟨⟨g.1, by rw [decide_eq_true (show i <= ops.size + 1 by omega)]; rfl⟩, List.all_eq_true.2 fun j hj => ?_⟩
 have g2 := List.all_eq_true.1 g.2 j hj
 have hj : j < i := by simpa using hj
 rw [Array.getElem?_eq_getElem (show j < ops.size by omega)] at g2 ⊢
 simp only [Bool.or_eq_true] at g2 ⊢
 exact .inr g2

end Go.Proofs.YtfechgagcgbldaaDoor.Abs
namespace Go.Proofs.YtfechgagcgbldaaDoor.Abs
open Go.RowKit
variable {P : Program}

def opD (P : Program) (own : List Nat) (o : Oper) (st : St) (K : St -> Prop) : Prop :=
 match o.op with
 | .call { callee := .value f, args := args, argTypes := _ } =>
  match st.ev f with
  | .fn g cap => (z06 5000000 own o.dst = false /\ tcM own o.dst = none /\ ∃ r, RCF P own o.dst g (args.toList.map st.ev ++ cap) st r /\ K (st.put o.dst r)) \/
    (z06 5000000 own o.dst = true /\ ∃ r, (∀ H nx, RC P g (args.toList.map st.ev ++ cap) H nx r) /\ K (st.put o.dst r)) \/
    (z06 5000000 own o.dst = false /\ z06 4000000 own o.dst = true /\ ∃ d H nx, AC P g (args.toList.map st.ev ++ cap) st.H st.nx (fun r' H' nx' => r' = d /\ H' = H /\ nx' = nx) /\ zux P own o.dst g (args.toList.map st.ev ++ cap) st.H st.nx st d H nx /\ K ((st.withH H nx).put o.dst d))
  | _ => False
 | _ => match opR P own o st with
  | some (d, H, nx) => if okW own o st = true then K ({ st with H := H, nx := nx }.put o.dst d) else False
  | none => False
def z2n (P : Program) (own : List Nat) (gs : List (Option Nat)) : List Oper -> (St -> Prop) -> St -> Prop
 | [], K, st => K st
 | o :: rest, K, st =>
  match za6 gs st o with
  | some true => opD P own o st (z2n P own gs rest K)
  | some false => z2n P own gs rest K (st.put o.dst (.tup []))
  | none => False

theorem z59 {own : List Nat} {ops : Array Oper} {K : St -> Prop} : ∀ (l : List Oper) (ks : List Nat) (st : St), ks.map (fun k => ops[k]?) = l.map some -> z2n P own (zkq ops) l K st -> z5e P own ops K ks st
 | [], [], st, _, h => h
 | [], _ :: _, st, hl, h => by simp at hl
 | _ :: _, [], st, hl, h => by simp at hl
 | o :: l, k :: ks, st, hl, h => by
  simp only [List.map_cons, List.cons.injEq] at hl
  obtain ⟨ho, hl'⟩ := hl
  simp only [z5e]
  simp only [z2n] at h
  rw [zdw] at h
  split at h
  ·rename_i hg
   unfold opD at h
   split at h
   ·rename_i f args tys hop
    split at h
    ·rename_i g cap hf
     rcases h with ⟨h0, ht, r, hrc, h⟩ | ⟨h0, r, hrc, h⟩ | ⟨h0, hm, d, H, nx, hac, hsb, h⟩
     ·exact ⟨o, r, st.H, st.nx, ho, .inl ⟨hg, .inl ⟨f, args, tys, g, cap, hop, hf, .inl ⟨h0, ht, hrc, rfl, rfl⟩⟩⟩, z59 l ks _ hl' h⟩
     ·exact ⟨o, r, st.H, st.nx, ho, .inl ⟨hg, .inl ⟨f, args, tys, g, cap, hop, hf, .inr (.inl ⟨h0, hrc, rfl, rfl⟩)⟩⟩, z59 l ks _ hl' h⟩
     ·exact ⟨o, d, H, nx, ho, .inl ⟨hg, .inl ⟨f, args, tys, g, cap, hop, hf, .inr (.inr ⟨h0, hm, hac, hsb⟩)⟩⟩, z59 l ks _ hl' h⟩
    ·cases h
   ·split at h
    ·rename_i d H nx hr
     split at h
     ·rename_i hok
      exact ⟨o, d, H, nx, ho, .inl ⟨hg, .inr ⟨hr, hok⟩⟩, z59 l ks _ hl' h⟩
     ·cases h
    ·cases h
  ·rename_i hg
   exact ⟨o, .tup [], st.H, st.nx, ho, .inr ⟨hg, rfl, rfl, rfl⟩, z59 l ks _ hl' h⟩
  ·cases h
theorem zs8 (ops : Array Oper) : (List.range ops.size).map (fun k => ops[k]?) = ops.toList.map some := by
 refine List.ext_getElem (by simp) fun i h1 h2 => ?_
 have hi : i < ops.size := by simpa using h1
 simp [Array.getElem?_eq_getElem hi]
def zy5 : List Oper -> List Oper
 | x :: y :: l => y :: x :: l
 | l => l
theorem zv2 {ops : Array Oper} {a : Nat} (ha : a + 1 < ops.size) : (List.range a).map (fun k => ops[k]?) = (ops.toList.take a).map some /\
  (a :: (a + 1) :: List.range' (a + 2) (ops.size - (a + 2))).map (fun k => ops[k]?) = (ops.toList.drop a).map some /\
  ((a + 1) :: a :: List.range' (a + 2) (ops.size - (a + 2))).map (fun k => ops[k]?) = (zy5 (ops.toList.drop a)).map some := by
 have h := zs8 ops
 have hr : List.range ops.size = List.range a ++ (a :: (a + 1) :: List.range' (a + 2) (ops.size - (a + 2))) := by
  obtain ⟨m, hm⟩ : ∃ m, ops.size = a + (2 + m) := ⟨ops.size - (a + 2), by omega⟩
  rw [hm, List.range_eq_range', List.range_eq_range', <- List.range'_append_1, <- List.range'_append_1, show a + (2 + m) - (a + 2) = m from by omega]
  simp [List.range']
 rw [hr, List.map_append] at h
 have h1 := congrArg (List.take a) h
 have h2 := congrArg (List.drop a) h
 rw [List.take_left' (by simp), <- List.map_take] at h1
 rw [List.drop_left' (by simp), <- List.map_drop] at h2
 refine ⟨h1, h2, ?_⟩
 cases V : ops.toList.drop a with
 | nil => rw [V] at h2; simp at h2
 | cons x l =>
  cases l with
  | nil => rw [V] at h2; simp at h2
  | cons y l =>
   rw [V] at h2
   simp only [List.map_cons, List.cons.injEq] at h2
   simp only [zy5, List.map_cons, List.cons.injEq]
   exact ⟨h2.2.1, h2.1, h2.2.2⟩
def awpR (P : Program) (own : List Nat) (ops : Array Oper) (K : St -> Prop) (st : St) : Prop :=
 (zfl own ops = true /\ z2n P own (zkq ops) ops.toList K st) \/
 ∃ a, zaz own ops a = true /\ a + 1 < ops.size /\ z2n P own (zkq ops) (ops.toList.take a) (fun st1 => z2n P own (zkq ops) (ops.toList.drop a) K st1 /\ z2n P own (zkq ops) (zy5 (ops.toList.drop a)) K st1) st

def SealTo (P : Program) (st st' : St) : Prop := ∀ N s a w, Fr P N st s a w -> ∃ s', Fr P N st' s' a w /\ Step s w s' w
theorem SealTo.refl (st : St) : SealTo P st st := fun _ s _ w h => ⟨s, h, Step.refl s w⟩
theorem SealTo.trans {st st' st'' : St} (h : SealTo P st st') (h' : SealTo P st' st'') : SealTo P st st'' := fun N s a w hf => by
 obtain ⟨s1, h1, h2⟩ := h N s a w hf
 obtain ⟨s2, h3, h4⟩ := h' N s1 a w h1
 exact ⟨s2, h3, h2.trans h4⟩
def zky (k : St -> Prop) (Q : Exit -> St -> Prop) : Exit -> St -> Prop
 | .normal, st => k st
 | e, st => Q e st
def zkz (id : Nat) (Q : Exit -> St -> Prop) : Exit -> St -> Prop
 | .exit id', st => if id' = id then Q .normal st else Q (.exit id') st
 | e, st => Q e st
def zl0 (I : Nat -> St -> Prop) (n : Nat) (Q : Exit -> St -> Prop) : Exit -> St -> Prop
 | .normal, st => ∃ m, m < n /\ I m st
 | e, st => Q e st

def awp (P : Program) (own : List Nat) : Code -> (Exit -> St -> Prop) -> St -> Prop
 | .skip, Q, st => Q .normal st
 | .region _ ops draw, Q, st => (draw = true -> awpR P own ops (Q .normal) st) /\ (draw = false -> z1f P own (zkq ops) ops.toList (Q .normal) st)
 | .seq a b, Q, st => awp P own a (zky (fun st => ∃ st', SealTo P st st' /\ awp P own b Q st') Q) st
 | .cond c x y, Q, st => ∃ t, st.ev c = .bool t /\ (t = true -> awp P own x Q st) /\ (t = false -> awp P own y Q st)
 | .block id c, Q, st => awp P own c (zkz id Q) st
 | .loop c, Q, st => ∃ I : Nat -> St -> Prop, (∃ n, I n st) /\ ∀ n st', I n st' -> awp P own c (zl0 I n Q) st'
 | .exit id, Q, st => Q (.exit id) st
 | .ret, Q, st => Q .ret st
 | _, _, _ => False

def z5a (N : Nat) : Code -> Bool
 | .region _ ops _ => ops.toList.all (z31 N)
 | .seq a b => z5a N a && z5a N b
 | .cond _ x y => z5a N x && z5a N y
 | .block _ c => z5a N c
 | .loop c => z5a N c
 | _ => true

theorem zjf {c : Code} {Q : Exit -> Act -> World -> Prop} (I : Nat -> Act -> World -> Prop) (round : ∀ n a w, I n a w -> c.wp P (Exit.then (fun a' w' => ∃ m, m < n /\ I m a' w') Q) a w) :
  ∀ n a w, I n a w -> (Code.loop c).wp P Q a w := by
 intro n a w h0 b k cs
 have key : ∀ n a w, I n a w -> ∃ e a' w', Q e a' w' /\ Arrives P (lone (b.at a (.code c :: .inLoop c :: k)) cs w) b k cs e a' w' := by
  intro n
  induction n using Nat.strongRecOn with
  | _ n ih =>
   intro a w hI
   obtain ⟨e, a₁, w₁, hq, harr⟩ := round n a w hI b (.inLoop c :: k) cs
   cases e with
   | normal =>
    obtain ⟨m, hm, hI₁⟩ := hq
    obtain ⟨e₂, a₂, w₂, hq₂, harr₂⟩ := ih m hm a₁ w₁ hI₁
    exact ⟨e₂, a₂, w₂, hq₂, .of_steps (Steps.trans harr (.one step_inLoop)) harr₂⟩
   | exit id => exact ⟨_, a₁, w₁, hq, .pass (x := .inLoop c) rfl (fun _ _ => .inl (by simp)) harr⟩
   | goto l => exact ⟨_, a₁, w₁, hq, .pass (x := .inLoop c) rfl (fun _ _ => .inl (by simp)) harr⟩
   | ret => exact ⟨_, a₁, w₁, hq, .pass (x := .inLoop c) rfl (fun _ _ => .inl (by simp)) harr⟩
   | panic ch => exact ⟨_, a₁, w₁, hq, .pass (x := .inLoop c) rfl (fun _ _ => .inl (by simp)) harr⟩
   | outgrown => exact ⟨_, a₁, w₁, hq, .pass (x := .inLoop c) rfl (fun _ _ => .inl (by simp)) harr⟩
 obtain ⟨e, a', w', hq, harr⟩ := key n a w h0
 exact ⟨e, a', w', hq, .of_steps (.one step_loop) harr⟩

def zy6 (P : Program) (N : Nat) (s0 : RS) (w0 : World) (Q : Exit -> St -> Prop) : Exit -> Act -> World -> Prop :=
 fun e a w => ∃ st s, Q e st /\ Fr P N st s a w /\ Step s0 w0 s w

theorem z3i {N : Nat} {own : List Nat} (hm : P.follows .mixedOrders = true) {s0 : RS} {w0 : World} : ∀ (c : Code) (Q : Exit -> St -> Prop) (st : St) (s : RS) (a : Act) (w : World), z5a N c = true -> awp P own c Q st ->
  Fr P N st s a w -> Step s0 w0 s w -> c.wp P (zy6 P N s0 w0 Q) a w
 | .skip, Q, st, s, a, w, _, h, hf, hs => wp_skip ⟨st, s, h, hf, hs⟩
 | .region id ops draw, Q, st, s, a, w, hok, h, hf, hs => by
  simp only [z5a] at hok
  have hdst : ∀ o ∈ ops.toList, z31 N o = true := fun o ho => List.all_eq_true.1 hok o ho
  cases draw with
  | false =>
   refine wp_region_list (z68 (Q := zy6 P N s0 w0 Q) ops.toList st s a w hdst (h.2 rfl) hf fun st' s' a' w' hK hf' hs' => ⟨st', s', hK, hf', hs.trans hs'⟩)
  | true =>
   obtain ⟨hds, hdr⟩ := z6k (w' := { w with drawn := w.drawn + 1 }) hf.heap rfl rfl rfl rfl
   have hf' : Fr P N st s a { w with drawn := w.drawn + 1 } := ⟨hf.H, hf.nx, hf.size, hf.defers, hf.tmps, hdr⟩
   have hdst2 : ∀ (i : Nat) o, ops[i]? = some o -> z31 N o = true := fun i o ho => hdst o (by
    obtain ⟨h1, h2⟩ := (Array.getElem?_eq_some_iff.1 ho)
    rw [<- h2]; exact (Array.mem_toList_iff.2 (Array.getElem_mem h1)))
   have hlen : (rem ops (Array.replicate ops.size false)).length <= ops.size := by
    have : (rem ops (Array.replicate ops.size false)).length <= (List.range ops.size).length := List.length_filter_le _ _
    simpa using this
   have hcl : zfm ops (Array.replicate ops.size false) := by
    intro k o ho hl
    have hlt := (Array.getElem?_eq_some_iff.1 ho).1
    simp [Array.getD_eq_getD_getElem?, hlt] at hl
   have hun : ∀ k, k < ops.size -> (Array.replicate ops.size false).getD k true = false := fun k hlt => by simp [Array.getD_eq_getD_getElem?, hlt]
   refine wp_region_any hm ?_
   rcases h.1 rfl with ⟨hdo, h⟩ | ⟨x, hdo, hx, h⟩
   ·refine zb0 (Q := zy6 P N s0 w0 Q) (zv1 hdo) hdst2 ops.size _ st s a _ hlen (by simp) hcl (.inl (by simp [Array.getD_eq_getD_getElem?])) ?_ hf' fun st' s' a' w' hK hf2 hs2 => ⟨st', s', hK, hf2, hs.trans (hds.trans hs2)⟩
    have hrem : rem ops (Array.replicate ops.size false) = List.range ops.size := by
     refine List.filter_eq_self.2 fun k O => ?_
     rw [hun k (by simpa using O)]; rfl
    rw [hrem]
    exact z59 ops.toList _ st (zs8 ops) h
   ·obtain ⟨m1, m2, m3⟩ := zv2 hx
    refine zv0 (Q := zy6 P N s0 w0 Q) hdo hx hdst2 ops.size _ st s a _ hlen (by simp) hcl (hun _ (by omega)) (hun _ hx) ?_ hf' fun st' s' a' w' hK hf2 hs2 => ⟨st', s', hK, hf2, hs.trans (hds.trans hs2)⟩
    have hlo : loL (Array.replicate ops.size false) x = List.range x := List.filter_eq_self.2 fun k O => by
     rw [hun k (by have : k < x := (by simpa using O); omega)]; rfl
    have hhi : hiL (Array.replicate ops.size false) x ops.size = List.range' (x + 2) (ops.size - (x + 2)) := List.filter_eq_self.2 fun k O => by
     rw [hun k (by have := List.mem_range'_1.1 O; omega)]; rfl
    rw [hlo, hhi]
    exact z47 (fun st1 h1 => ⟨z59 _ _ st1 m2 h1.1, z59 _ _ st1 m3 h1.2⟩) _ _ (z59 _ _ st m1 h)
 | .seq x y, Q, st, s, a, w, hok, h, hf, hs => by
  simp only [z5a, Bool.and_eq_true] at hok
  refine wp_seq (wp_mono (z3i hm x _ st s a w hok.1 h hf hs) ?_)
  rintro e a' w' ⟨st', s', hq, hf', hs'⟩
  cases e with
  | normal =>
   obtain ⟨st2, hseal, hq⟩ := hq
   obtain ⟨s2, hf2, hs2⟩ := hseal N s' a' w' hf'
   exact z3i hm y Q st2 s2 a' w' hok.2 hq hf2 (hs'.trans hs2)
  | exit id => exact ⟨st', s', hq, hf', hs'⟩
  | goto l => exact ⟨st', s', hq, hf', hs'⟩
  | ret => exact ⟨st', s', hq, hf', hs'⟩
  | panic ch => exact ⟨st', s', hq, hf', hs'⟩
  | outgrown => exact ⟨st', s', hq, hf', hs'⟩
 | .cond c x y, Q, st, s, a, w, hok, h, hf, hs => by
  simp only [z5a, Bool.and_eq_true] at hok
  obtain ⟨t, ht, h1, h2⟩ := h
  have hv := hf.ev c
  rw [ht] at hv
  simp only [rel] at hv
  exact wp_cond_split hv (fun e => z3i hm x Q st s a w hok.1 (h1 e) hf hs) (fun e => z3i hm y Q st s a w hok.2 (h2 e) hf hs)
 | .block id c, Q, st, s, a, w, hok, h, hf, hs => by
  refine wp_block (wp_mono (z3i hm c _ st s a w hok h hf hs) ?_)
  rintro e a' w' ⟨st', s', hq, hf', hs'⟩
  cases e with
  | exit id' =>
   simp only [zkz] at hq
   simp only [Exit.inBlock]
   split
   ·rename_i he; rw [if_pos he] at hq; exact ⟨st', s', hq, hf', hs'⟩
   ·rename_i he; rw [if_neg he] at hq; exact ⟨st', s', hq, hf', hs'⟩
  | normal => exact ⟨st', s', hq, hf', hs'⟩
  | goto l => exact ⟨st', s', hq, hf', hs'⟩
  | ret => exact ⟨st', s', hq, hf', hs'⟩
  | panic ch => exact ⟨st', s', hq, hf', hs'⟩
  | outgrown => exact ⟨st', s', hq, hf', hs'⟩
 | .loop c, Q, st, s, a, w, hok, h, hf, hs => by
  obtain ⟨I, ⟨n, hn⟩, hround⟩ := h
  refine zjf (fun n a w => ∃ st s, I n st /\ Fr P N st s a w /\ Step s0 w0 s w) ?_ n a w ⟨st, s, hn, hf, hs⟩
  rintro n a w ⟨st, s, hI, hf, hs⟩
  refine wp_mono (z3i hm c _ st s a w hok (hround n st hI) hf hs) ?_
  rintro e a' w' ⟨st', s', hq, hf', hs'⟩
  cases e with
  | normal =>
   obtain ⟨m, hm', hI'⟩ := hq
   exact ⟨m, hm', st', s', hI', hf', hs'⟩
  | exit id => exact ⟨st', s', hq, hf', hs'⟩
  | goto l => exact ⟨st', s', hq, hf', hs'⟩
  | ret => exact ⟨st', s', hq, hf', hs'⟩
  | panic ch => exact ⟨st', s', hq, hf', hs'⟩
  | outgrown => exact ⟨st', s', hq, hf', hs'⟩
 | .exit id, Q, st, s, a, w, _, h, hf, hs => wp_exit ⟨st, s, h, hf, hs⟩
 | .ret, Q, st, s, a, w, _, h, hf, hs => wp_ret ⟨st, s, h, hf, hs⟩
 | .rangeFunc .., _, _, _, _, _, _, h, _, _ => h.elim
 | .scope _, _, _, _, _, _, _, h, _, _ => h.elim
 | .label _, _, _, _, _, _, _, h, _, _ => h.elim
 | .goto _, _, _, _, _, _, _, h, _, _ => h.elim
 | .refuse _, _, _, _, _, _, _, h, _, _ => h.elim

def valR (P : Program) (st : St) : ResultVar -> Option D
 | .tmp t => some (st.t t)
 | .cell a ty => z2x P st.H ty (st.t a)
def zy7 (P : Program) (st : St) : List ResultVar -> Option (List D)
 | [] => some []
 | r :: rs => match valR P st r, zy7 P st rs with
  | some d, some ds => some (d :: ds)
  | _, _ => none
def zy8 (P : Program) (st : St) (rs : List ResultVar) : Option D :=
 match zy7 P st rs with
 | some [d] => some d
 | some ds => some (.tup ds)
 | none => none
def retQ (P : Program) (rs : List ResultVar) (K : D -> HM -> Nat -> Prop) : Exit -> St -> Prop
 | .normal, st | .ret, st => ∃ r, zy8 P st rs = some r /\ K r st.H st.nx
 | _, _ => False

theorem zoc {s : RS} {w : World} {p d : D} {H : HM} {t : TypeId} {v u : Value} (hl : z2x P H t p = some d) (hp : rel s p v) (hr : (Instr.loadAt t v).run P w = .ok u w) : (do loadVar t (<- asAddr v) : Sem Value).run P w = .ok u w := by
 have hv : ∃ a, v = .pointer (some a) := by
  unfold z2x at hl
  split at hl
  ·simp only [rel] at hp; exact hp.2.1
  ·simp only [rel] at hp; exact hp.2.1
  ·simp only [rel] at hp; obtain ⟨a, u, h, _⟩ := hp; exact ⟨a, h⟩
  ·cases hl
 obtain ⟨a, rfl⟩ := hv
 simpa [Instr.loadAt, Instr.sureAddr, asAddr] using hr

def resV (tmps : Array Value) : ResultVar -> Sem Value
 | .tmp t => pure (tmps.getD t undef)
 | .cell a t => do loadVar t (<- asAddr (tmps.getD a undef))
theorem zod (fn : Func) (tmps : Array Value) : results fn tmps = (do let vs <- fn.results.mapM (resV tmps); pure (if h : vs.size = 1 then vs[0] else .tuple vs)) := by
 unfold results
 congr 2
theorem zbu {N : Nat} {st : St} {s : RS} {a : Act} {w : World} (hf : Fr P N st s a w) : ∀ (rs : List ResultVar) (ds : List D), zy7 P st rs = some ds ->
  ∃ vs, (rs.mapM (resV a.tmps)).run P w = .ok vs w /\ relAll s ds vs
 | [], ds, h => by
  simp only [zy7, Option.some.injEq] at h; subst h
  exact ⟨[], by simp, z0h⟩
 | r :: rs, ds, h => by
  simp only [zy7] at h
  split at h
  ·rename_i d ds' V hds
   cases h
   obtain ⟨vs, h1, h2⟩ := zbu hf rs ds' hds
   cases r with
   | tmp t =>
    simp only [valR, Option.some.injEq] at V; subst V
    refine ⟨a.tmps.getD t undef :: vs, ?_, z09 (hf.tmps t) h2⟩
    simp only [List.mapM_cons, Sem.run_bind, resV, Sem.run_pure, Result.andThen_ok, h1]
   | cell b ty =>
    simp only [valR] at V
    have hd' := V
    rw [<- hf.H] at V
    obtain ⟨u, h3, h4⟩ := zeo hf.heap V (hf.tmps b)
    refine ⟨u :: vs, ?_, z09 h4 h2⟩
    have h5 := zoc V (hf.tmps b) h3
    rw [List.mapM_cons, Sem.run_bind]
    simp only [resV]
    rw [h5, Result.andThen_ok, Sem.run_bind, h1, Result.andThen_ok, Sem.run_pure]
  ·cases h

theorem z4m {N : Nat} {st : St} {s : RS} {a : Act} {w : World} (hf : Fr P N st s a w) {fn : Func} {r : D} (h : zy8 P st fn.results.toList = some r) :
  ∃ v, (results fn a.tmps).run P w = .ok v w /\ rel s r v := by
 unfold zy8 at h
 cases hall : zy7 P st fn.results.toList with
 | none => rw [hall] at h; cases h
 | some ds =>
  obtain ⟨vs, h1, h2⟩ := zbu hf _ _ hall
  have hrun : (results fn a.tmps).run P w = .ok (if h : vs.toArray.size = 1 then vs.toArray[0] else .tuple vs.toArray) w := by
   rw [zod, Array.mapM_eq_mapM_toList]
   simp only [Sem.run_bind, Sem.run_map, h1, Result.andThen_ok, Sem.run_pure]
  rw [hall] at h
  have hl := z01 h2
  match ds, h with
  | [], h =>
   simp only [Option.some.injEq] at h; subst h
   have : vs = [] := List.eq_nil_of_length_eq_zero (by simpa using hl)
   subst this
   exact ⟨_, hrun, by simp only [rel]; exact ⟨[], by simp, z0h⟩⟩
  | [d], h =>
   simp only [Option.some.injEq] at h; subst h
   simp only [relAll] at h2
   obtain ⟨v, r, rfl, h3, rfl⟩ := h2
   exact ⟨_, hrun, by simpa using h3⟩
  | d :: e :: ds, h =>
   simp only [Option.some.injEq] at h; subst h
   refine ⟨_, hrun, ?_⟩
   have hne : ¬ vs.toArray.size = 1 := by simp [hl]
   rw [dif_neg hne]
   simp only [rel]
   exact ⟨vs, rfl, h2⟩

def st0 (ds : List D) (H : HM) (nx : Nat) : St := ⟨fun i => (ds[i]?).getD .any, H, nx⟩

theorem zqze {f : FuncId} {fn : Func} {c : Code} (own : List Nat) (hf : P.funcs[f]? = some fn) (hb : fn.body = some c) (hname : (fn.name == "runtime.NumGoroutine") = false) (hm : P.follows .mixedOrders = true)
  (hok : z5a fn.ntmps c = true) {ds : List D} {H : HM} {nx : Nat} {K : D -> HM -> Nat -> Prop} (hds : ds.length <= fn.ntmps) (h : awp P own c (retQ P fn.results.toList K) (st0 ds H nx)) : AC P f ds H nx K := by
 refine ⟨⟨fn, hf, hname, by rw [hb]; rfl⟩, fun s w vs hH hnx hRH hr => ?_⟩
 have hlen := z01 hr
 refine calls_of_wp hf hb ?_
 have hfr : Fr P fn.ntmps (st0 ds H nx) s { tmps := vs.toArray ++ Array.replicate (fn.ntmps - vs.toArray.size) undef, defers := [] } w := by
  refine ⟨hH, hnx, by simp; omega, rfl, fun i => ?_, hRH⟩
  simp only [st0]
  cases V : ds[i]? with
  | none => simp [rel]
  | some d =>
   obtain ⟨v, hv, hrel⟩ := z1b hr i d V
   have hi : i < vs.length := by
    rcases Nat.lt_or_ge i vs.length with h | h
    ·exact h
    ·rw [List.getElem?_eq_none h] at hv; cases hv
   simp only [Array.getD_eq_getD_getElem?, Option.getD_some]
   rw [Array.getElem?_append_left (by simpa using hi)]
   simp only [List.getElem?_toArray, hv, Option.getD_some]
   exact hrel
 refine wp_mono (z3i (s0 := s) (w0 := w) hm c _ _ s _ w hok h hfr (Step.refl s w)) ?_
 rintro e a' w' ⟨st', s', hq, hf', hs'⟩
 cases e with
 | normal =>
  obtain ⟨r, hr, hK⟩ := hq
  obtain ⟨v, h1, h2⟩ := z4m hf' hr
  exact ⟨hf'.defers, v, h1, v, r, s', rfl, by rw [hf'.H, hf'.nx]; exact hK, hs', hf'.heap, h2⟩
 | ret =>
  obtain ⟨r, hr, hK⟩ := hq
  obtain ⟨v, h1, h2⟩ := z4m hf' hr
  exact ⟨hf'.defers, v, h1, v, r, s', rfl, by rw [hf'.H, hf'.nx]; exact hK, hs', hf'.heap, h2⟩
 | exit id => exact hq.elim
 | goto l => exact hq.elim
 | panic ch => exact hq.elim
 | outgrown => exact hq.elim

end Go.Proofs.YtfechgagcgbldaaDoor.Abs
namespace Go.Proofs.YtfechgagcgbldaaDoor.Abs
open Go.RowKit
variable {P : Program}

def flatD : D -> Bool
 | .int .. | .bool _ | .str _ | .nil | .nptr | .nfun | .nmp | .e0 | .any => true
 | .tup ds => flatL ds
 | .agg ds => flatL ds
 | _ => false
where flatL : List D -> Bool
 | [] => true
 | d :: ds => flatD d && flatL ds

mutual
theorem zm8 (s s' : RS) : ∀ (d : D) (v : Value), flatD d = true -> rel s d v -> rel s' d v
 | .any, _, _, _ => by simp [rel]
 | .int k n, v, _, hr => by simpa [rel] using hr
 | .bool b, v, _, hr => by simpa [rel] using hr
 | .str x, v, _, hr => by simpa [rel] using hr
 | .agg ds, v, hp, hr => by
  simp only [flatD] at hp
  simp only [rel] at hr ⊢
  obtain ⟨vs, h1, h2, h3⟩ := hr
  exact ⟨vs, h1, z96 s s' ds vs hp h2, h3⟩
 | .tup ds, v, hp, hr => by
  simp only [flatD] at hp
  simp only [rel] at hr ⊢
  obtain ⟨vs, h1, h2⟩ := hr
  exact ⟨vs, h1, z96 s s' ds vs hp h2⟩
 | .nil, v, _, hr => by simpa [rel] using hr
 | .nptr, v, _, hr => by simpa [rel] using hr
 | .nfun, v, _, hr => by simpa [rel] using hr
 | .nmp, v, _, hr => by simpa [rel] using hr
 | .e0, v, _, hr => by simpa [rel] using hr
 | .rsl .., _, hp, _ => by cases hp
 | .fsl .., _, hp, _ => by cases hp
 | .rptr _, _, hp, _ => by cases hp
 | .fn .., _, hp, _ => by cases hp
 | .osl .., _, hp, _ => by cases hp
 | .ptr .., _, hp, _ => by cases hp
 | .eptr .., _, hp, _ => by cases hp
 | .mp _, _, hp, _ => by cases hp
 | .it _, _, hp, _ => by cases hp
theorem z96 (s s' : RS) : ∀ (ds : List D) (vs : List Value), flatD.flatL ds = true -> relAll s ds vs -> relAll s' ds vs
 | [], vs, _, hr => by simpa [relAll] using hr
 | d :: ds, vs, hp, hr => by
  simp only [flatD.flatL, Bool.and_eq_true] at hp
  simp only [relAll] at hr ⊢
  obtain ⟨v, r, h1, h2, h3⟩ := hr
  exact ⟨v, r, h1, zm8 s s' d v hp.1 h2, z96 s s' ds r hp.2 h3⟩
end

def zcf (f : D -> Option D) : List D -> Option (List D)
 | [] => some []
 | d :: ds => match f d, zcf f ds with
  | some d', some ds' => some (d' :: ds')
  | _, _ => none
def z2e (P : Program) (H : HM) : Nat -> D -> Option D
 | 0, _ => none
 | k + 1, d =>
  if pureD d = true then some d else
  match d with
  | .osl id n => match H id with
   | some (.row e n' cs) => if n = n' /\ (z02 P e = true \/ (z02 P e = false /\ z00 P e = 1)) then (zcf (z2e P H k) cs).map fun cs' => .rsl false (z00 P e) (z1e (z02 P e) (z00 P e) n cs') else none
   | _ => none
  | .agg ds => (zcf (z2e P H k) ds).map .agg
  | .tup ds => (zcf (z2e P H k) ds).map .tup
  | .rsl nn sz els => (zcf (z2e P H k) els).map (.rsl nn sz)
  | .fn f cap => (zcf (z2e P H k) cap).map (.fn f)
  | .ptr id off => match H id with
   | some (.box e cs) => if off = 0 /\ (z02 P e = true \/ (z02 P e = false /\ cs.length = 1)) then (zcf (z2e P H k) cs).map fun cs' => .rptr (if z02 P e = true then .agg cs' else (cs'[0]?).getD .any) else none
   | _ => none
  | _ => none

noncomputable def RS.shut (s : RS) (w : World) : RS :=
 {s with m := fun a => @ite _ (owned s a.block) (Classical.propDecidable _) (w.cell? a) (s.m a), H := fun _ => none }

theorem z8a {s : RS} {w : World} (h : RH P s w) : Step s w (s.shut w) w /\ RH P (s.shut w) w := by
 have hmem : ∀ a v, s.m a = some v -> (s.shut w).m a = some v := by
  intro a v hm
  have := (h.mem a v hm).2
  simp only [RS.shut]
  rw [if_neg this]; exact hm
 have hno : ∀ k, ¬ owned (s.shut w) k := by
  rintro k ⟨id, _, hH, _⟩
  exact hH rfl
 refine ⟨⟨rfl, rfl, rfl, Nat.le_refl _, Nat.le_refl _, hmem, fun a v hm => ?_, fun id _ => ?_, fun _ _ _ => rfl, fun k ho => (hno k ho).elim⟩, ?_, ?_, ?_, fun g => z18 hmem _ _ (z3p g) (h.glob g)⟩
 ·simp only [RS.shut] at hm
  by_cases ho : owned s a.block
  ·exact .inr (.inr ho)
  ·rw [if_neg ho] at hm; exact .inl hm
 ·simp only [RS.shut]
  unfold objLe
  cases s.H id with
  | none => rfl
  | some o => cases o <;> exact .inl rfl
 ·intro a v hm
  refine ⟨?_, hno _⟩
  simp only [RS.shut] at hm
  by_cases ho : owned s a.block
  ·rw [if_pos ho] at hm; exact hm
  ·rw [if_neg ho] at hm; exact (h.mem a v hm).1
 ·intro id o ho; cases ho
 ·intro i j hi; exact (hi rfl).elim

theorem zb2 {s : RS} {w : World} (h : RH P s w) : ∀ (k : Nat) (d : D) (v : Value) (r : D), rel s d v -> z2e P s.H k d = some r -> rel (s.shut w) r v := by
 obtain ⟨hstep, hRH⟩ := z8a h
 intro k
 induction k with
 | zero => intro d v r _ hs; cases hs
 | succ k ih =>
  have ihL : ∀ (ds : List D) (vs : List Value) (rs : List D), relAll s ds vs -> zcf (z2e P s.H k) ds = some rs -> relAll (s.shut w) rs vs := by
   intro ds
   induction ds with
   | nil => intro vs rs hr hs; simp only [zcf, Option.some.injEq] at hs; subst hs; simpa [relAll] using hr
   | cons d ds ihd =>
    intro vs rs hr hs
    simp only [relAll] at hr
    obtain ⟨v, q, rfl, h1, h2⟩ := hr
    simp only [zcf] at hs
    split at hs
    ·rename_i d' ds' V hds
     cases hs
     exact z09 (ih d v d' h1 V) (ihd q ds' h2 hds)
    ·cases hs
  intro d v r hr hs
  simp only [z2e] at hs
  split at hs
  ·rename_i hp
   cases hs
   exact z18 hstep.mem d v hp hr
  ·split at hs
   ·rename_i id n _
    split at hs
    ·rename_i e n' cs hid
     split at hs
     ·rename_i hc
      obtain ⟨rfl, hsz⟩ := hc
      simp only [Option.map_eq_some_iff] at hs
      obtain ⟨cs', hcs, rfl⟩ := hs
      obtain ⟨vs, ho, hrv, hov, hcl, hcell⟩ := z50 h hid
      simp only [rel] at hr
      obtain ⟨hidn, _, hlive⟩ := hr
      have hv := (hlive _ _ _ hid).2 rfl
      subst hv
      have hr' := ihL cs vs cs' hrv hcs
      have hl' : cs'.length = n * z00 P e := by rw [<- z01 hr', z01 hrv]; exact hcl
      have hg := z5l hsz n cs' vs hl' hr' hov
      have hgl : (z1e (z02 P e) (z00 P e) n cs').length = n := by rw [<- z01 hg]; exact z2c _ _ _ _
      simp only [rel]
      rcases ho.2 with ⟨hv0, hn0⟩ | ⟨g, cap, cur, hv0, _, hh, hnc, hcm, _⟩
      ·subst hn0
       exact .inl ⟨trivial, by rw [z1e], hv0⟩
      ·have hown : owned s g := ⟨id, hidn, by rw [hid]; simp, by rw [hv0]; rfl⟩
       refine .inr ⟨⟨g, 0, none⟩, cap, _, by rw [hgl]; exact hv0, by rw [hgl]; exact hnc, hcm, hg, fun i u hu => ?_⟩
       have hi : i < n := by
        rcases Nat.lt_or_ge i n with h9 | h9
        ·exact h9
        ·rw [List.getElem?_eq_none (by rw [z2c]; exact h9)] at hu; cases hu
       rw [z88 _ _ _ _ _ hi] at hu
       simp only [Option.some.injEq] at hu
       subst hu
       have hvl : vs.length = n * z00 P e := by rw [z01 hrv]; exact hcl
       have hmul : i * z00 P e + z00 P e <= n * z00 P e := by
        have := Nat.mul_le_mul_right (z00 P e) (show i + 1 <= n by omega)
        rw [Nat.add_mul] at this; omega
       have cellm : ∀ j c, vs[j]? = some c -> (s.shut w).m ⟨g, j, none⟩ = some c := by
        intro j c hj
        simp only [RS.shut]
        rw [if_pos hown]
        exact hcell g (by rw [hv0]; rfl) j c hj
       rcases hsz with hag | ⟨hag, h1⟩
       ·rw [if_pos hag]
        refine ⟨by simp [Value.cells]; omega, fun j c hj => ?_⟩
        rw [z0o, z0o, Nat.zero_add]
        simp only [Value.cells, List.getElem?_take, List.getElem?_drop] at hj
        split at hj
        ·exact cellm _ _ hj
        ·cases hj
       ·rw [if_neg (by rw [hag]; simp)]
        rw [h1] at hmul hvl ⊢
        simp only [Nat.mul_one] at hmul hvl ⊢
        have hget : vs[i]? = some vs[i] := List.getElem?_eq_getElem (by omega)
        have h1u : (vs[i]).oneCell' = true := hov _ (List.getElem_mem _)
        rw [hget]
        simp only [Option.getD_some]
        rw [z1r h1u]
        refine ⟨rfl, fun j c hj => ?_⟩
        cases j with
        | zero =>
         simp at hj; subst hj
         rw [z0o, z0o, Nat.zero_add]
         exact cellm _ _ hget
        | succ j => simp at hj
     ·cases hs
    ·cases hs
   ·rename_i ds _
    simp only [Option.map_eq_some_iff] at hs
    obtain ⟨ds', hds, rfl⟩ := hs
    simp only [rel] at hr ⊢
    obtain ⟨vs, h1, h2, h3⟩ := hr
    exact ⟨vs, h1, ihL _ _ _ h2 hds, h3⟩
   ·rename_i ds _
    simp only [Option.map_eq_some_iff] at hs
    obtain ⟨ds', hds, rfl⟩ := hs
    simp only [rel] at hr ⊢
    obtain ⟨vs, h1, h2⟩ := hr
    exact ⟨vs, h1, ihL _ _ _ h2 hds⟩
   ·rename_i nn sz els _
    simp only [Option.map_eq_some_iff] at hs
    obtain ⟨ds', hds, rfl⟩ := hs
    simp only [rel] at hr ⊢
    rcases hr with ⟨h1, rfl, h3⟩ | ⟨a, cap, vs, h1, h2, h3, h4, h5⟩
    ·simp only [zcf, Option.some.injEq] at hds; subst hds
     exact .inl ⟨h1, rfl, h3⟩
    ·have h6 := ihL _ _ _ h4 hds
     have h7 : ds'.length = els.length := by rw [<- z01 h6, z01 h4]
     exact .inr ⟨a, cap, vs, by rw [h7]; exact h1, by rw [h7]; exact h2, h3, h6, fun i u hu => ⟨(h5 i u hu).1, (h5 i u hu).2.later hstep.mem⟩⟩
   ·rename_i f cap _
    simp only [Option.map_eq_some_iff] at hs
    obtain ⟨ds', hds, rfl⟩ := hs
    simp only [rel] at hr ⊢
    obtain ⟨vs, h1, h2⟩ := hr
    exact ⟨vs, h1, ihL _ _ _ h2 hds⟩
   ·rename_i id off _
    split at hs
    ·rename_i e cs hid
     split at hs
     ·rename_i hc
      obtain ⟨rfl, hag⟩ := hc
      simp only [Option.map_eq_some_iff] at hs
      obtain ⟨cs', hcs, rfl⟩ := hs
      obtain ⟨b, vs, O, hb, hrv, hov, hcell⟩ := zct h hid
      simp only [rel] at hr
      obtain ⟨hidn, _, hlive⟩ := hr
      obtain ⟨b', h1, h2⟩ := hlive _ _ hid
      have hbb : b' = b := by rw [h1] at O; cases O; rfl
      subst hbb
      have hr' := ihL cs vs cs' hrv hcs
      have hown : owned s b' := ⟨id, hidn, by rw [hid]; simp, by rw [h1]; rfl⟩
      have cellm : ∀ j c, vs[j]? = some c -> (s.shut w).m ⟨b', j, none⟩ = some c := by
       intro j c hj
       simp only [RS.shut]
       rw [if_pos hown]
       exact hcell j c hj
      simp only [rel]
      rcases hag with hag | ⟨hag, hl1⟩
      ·rw [if_pos hag]
       refine ⟨⟨b', 0, none⟩, .agg vs.toArray, h2, by simp only [rel]; exact ⟨vs, rfl, hr', hov⟩, fun j c hj => ?_⟩
       rw [z0o, Nat.zero_add]
       exact cellm j c (by simpa [Value.cells] using hj)
      ·rw [if_neg (by rw [hag]; simp)]
       have hl2 : vs.length = 1 := by rw [z01 hrv]; exact hl1
       obtain ⟨u, rfl⟩ := List.length_eq_one_iff.1 hl2
       have hl3 : cs'.length = 1 := by rw [<- z01 hr']; rfl
       obtain ⟨c0, rfl⟩ := List.length_eq_one_iff.1 hl3
       simp only [relAll] at hr'
       obtain ⟨u', q, hu, hcr, _⟩ := hr'
       cases hu
       have h1u : u.oneCell' = true := hov _ (by simp)
       refine ⟨⟨b', 0, none⟩, u, h2, hcr, fun j c hj => ?_⟩
       rw [z1r h1u] at hj
       rw [z0o, Nat.zero_add]
       exact cellm j c (by simpa using hj)
     ·cases hs
    ·cases hs
   ·cases hs

def noH : HM := fun _ => none
def PC (P : Program) (f : FuncId) (ds : List D) (r : D) : Prop :=
 pureD.pureL ds = true /\ pureD r = true /\ AC P f ds noH 0 fun r' _ _ => r' = r

def Le (d d' : D) : Prop := ∀ s v, rel s d v -> rel s d' v
theorem Le.refl (d : D) : Le d d := fun _ _ h => h
theorem Le.nil (sz : Nat) : Le .nil (.rsl false sz []) := fun s v h => by simp only [rel] at h ⊢; exact .inl ⟨trivial, trivial, h⟩
theorem Le.rsl {nn : Bool} {sz : Nat} {els : List D} : Le (.rsl nn sz els) (.rsl false sz els) := fun s v h => by
 simp only [rel] at h ⊢
 rcases h with ⟨_, h1, h2⟩ | h
 ·exact .inl ⟨trivial, h1, h2⟩
 ·exact .inr h
def LeL : List D -> List D -> Prop
 | [], [] => True
 | d :: ds, e :: es => Le d e /\ LeL ds es
 | _, _ => False
theorem z7t {s : RS} : ∀ {ds es : List D} {vs : List Value}, LeL ds es -> relAll s ds vs -> relAll s es vs
 | [], [], _, _, h => h
 | [], _ :: _, _, h, _ => h.elim
 | _ :: _, [], _, h, _ => h.elim
 | d :: ds, e :: es, vs, h, hr => by
  simp only [relAll] at hr ⊢
  obtain ⟨v, r, h1, h2, h3⟩ := hr
  exact ⟨v, r, h1, h.1 _ _ h2, z7t h.2 h3⟩
theorem Le.tup {ds es : List D} (h : LeL ds es) : Le (.tup ds) (.tup es) := fun s v hr => by
 simp only [rel] at hr ⊢
 obtain ⟨vs, h1, h2⟩ := hr
 exact ⟨vs, h1, z7t h h2⟩
theorem Le.agg {ds es : List D} (h : LeL ds es) : Le (.agg ds) (.agg es) := fun s v hr => by
 simp only [rel] at hr ⊢
 obtain ⟨vs, h1, h2, h3⟩ := hr
 exact ⟨vs, h1, z7t h h2, h3⟩

def Fin (P : Program) (k : Nat) (r : D) : D -> HM -> Nat -> Prop := fun r' H _ => ∃ d, z2e P H k r' = some d /\ Le d r

theorem AC.shut {f : FuncId} {ds : List D} {H : HM} {nx : Nat} {r : D} {k : Nat} (h : AC P f ds H nx (Fin P k r)) : AC P f ds H nx fun r' _ _ => r' = r := by
 refine ⟨h.1, fun s w vs h1 h2 h3 h4 => (h.2 s w vs h1 h2 h3 h4).mono fun e w' ⟨v, r', s', he, ⟨d, hs, hle⟩, hstep, hRH, hr⟩ => ?_⟩
 obtain ⟨g1, g2⟩ := z8a hRH
 exact ⟨v, r, s'.shut w', he, rfl, hstep.trans g1, g2, hle _ _ (zb2 hRH k r' v d hr hs)⟩

theorem z3l {f : FuncId} {ds : List D} {r : D} (k : Nat) (hds : pureD.pureL ds = true) (hr : pureD r = true) (h : AC P f ds noH 0 (Fin P k r)) : PC P f ds r :=
 ⟨hds, hr, h.shut⟩

theorem zs9 {f : FuncId} {ds : List D} {r : D} (h : PC P f ds r) {s s1 : RS} {w : World} {vs : List Value} (hRH : RH P s w) (hRH1 : RH P s1 w) (hr1 : relAll s1 ds vs)
  (hsub : (∀ a v, s1.m a = some v -> s.m a = some v) \/ flatD r = true) :
  Calls P f vs.toArray w fun e w' => ∃ v r' s', e = .returned v /\ (r' = r /\ s'.H = s.H /\ s'.nx = s.nx) /\ Step s w s' w' /\ RH P s' w' /\ rel s' r' v := by
 let s2 : RS := { s1 with H := noH, nx := 0 }
 have hno : ∀ k, ¬ owned s2 k := by rintro k ⟨id, hid, _⟩; exact absurd hid (Nat.not_lt_zero _)
 have hRH2 : RH P s2 w := ⟨fun a v hmm => ⟨(hRH1.mem a v hmm).1, hno _⟩, fun id o ho => (by cases ho), fun i j hi => (hi rfl).elim, fun g => z18 (s := s1) (s' := s2) (fun a v hm => hm) _ _ (z3p g) (hRH1.glob g)⟩
 have hr2 : relAll s2 ds vs := z10 (s := s1) (s' := s2) (fun a v hm => hm) ds vs h.1 hr1
 refine (h.2.2.2 s2 w vs rfl rfl hRH2 hr2).mono fun e w' ⟨v, r', s3, he, hrr, hstep, hRH3, hrel⟩ => ?_
 subst hrr
 have hold : ∀ k, k < w.heap.size -> w'.heap[k]? = w.heap[k]? := fun k O => hstep.keep k O (hno k)
 have hgrew : Grew w w' := ⟨hstep.os, hstep.tape, hstep.output, hstep.size, hold⟩
 obtain ⟨g1, g2⟩ := z7b hRH hgrew
 refine ⟨v, r', s.grow w w', he, ⟨rfl, rfl, rfl⟩, g1, g2, ?_⟩
 rcases hsub with hsub | hflat
 ·refine z18 (fun a u hm3 => ?_) r' v h.2.1 hrel
  simp only [RS.grow]
  rcases hstep.new a u hm3 with h1 | h1 | h1
  ·have hlt := hRH1.mem_lt h1
   rw [if_pos hlt]; exact hsub a u h1
  ·rw [if_neg (by omega)]; exact (hRH3.mem a u hm3).1
  ·exact (hno _ h1).elim
 ·exact zm8 _ _ r' v hflat hrel

theorem PC.rc {f : FuncId} {ds : List D} {r : D} (h : PC P f ds r) (H : HM) (nx : Nat) : RC P f ds H nx r := by
 refine ⟨h.2.2.1, fun s w vs hH hnx hRH hr => ?_⟩
 subst hH; subst hnx
 let s1 : RS := { s with H := noH, nx := 0 }
 have hno : ∀ k, ¬ owned s1 k := by rintro k ⟨id, hid, _⟩; exact absurd hid (Nat.not_lt_zero _)
 exact zs9 h (s1 := s1) hRH ⟨fun a v hmm => ⟨(hRH.mem a v hmm).1, hno _⟩, fun id o ho => (by cases ho), fun i j hi => (hi rfl).elim, fun g => z18 (s := s) (s' := s1) (fun a v hm => hm) _ _ (z3p g) (hRH.glob g)⟩ (z10 (s := s) (s' := s1) (fun a v hm => hm) ds vs h.1 hr) (.inl fun a v hm => hm)

theorem ze2 {s : RS} {w : World} (h : RH P s w) (k : Nat) : ∀ (ds : List D) (vs : List Value) (rs : List D), relAll s ds vs -> zcf (z2e P s.H k) ds = some rs -> relAll (s.shut w) rs vs
 | [], vs, rs, hr, hs => by simp only [zcf, Option.some.injEq] at hs; subst hs; simpa [relAll] using hr
 | d :: ds, vs, rs, hr, hs => by
  simp only [relAll] at hr
  obtain ⟨v, q, rfl, h1, h2⟩ := hr
  simp only [zcf] at hs
  split at hs
  ·rename_i d' ds' V hds
   cases hs
   exact z09 (zb2 h k d v d' h1 V) (ze2 h k ds q ds' h2 hds)
  ·cases hs
theorem PC.borrow {f : FuncId} {ds ds' : List D} {r : D} (h : PC P f ds' r) (hf : flatD r = true) (k : Nat) {H : HM} {nx : Nat} (hs : zcf (z2e P H k) ds = some ds') : RC P f ds H nx r := by
 refine ⟨h.2.2.1, fun s w vs hH hnx hRH hr => ?_⟩
 subst hH; subst hnx
 obtain ⟨g1, g2⟩ := z8a hRH
 exact zs9 h (s1 := s.shut w) hRH g2 (ze2 hRH k ds vs ds' hr hs) (.inr hf)
theorem PC.ac {f : FuncId} {ds : List D} {r : D} (h : PC P f ds r) {H : HM} {nx : Nat} {K : D -> HM -> Nat -> Prop} (O : K r H nx) : AC P f ds H nx K :=
 AC.mono (h.rc H nx) fun _ _ _ ⟨h1, h2, h3⟩ => by subst h1; subst h2; subst h3; exact O
theorem RC.ac {f : FuncId} {ds : List D} {r : D} {H : HM} {nx : Nat} (h : RC P f ds H nx r) {K : D -> HM -> Nat -> Prop} (O : K r H nx) : AC P f ds H nx K :=
 AC.mono h fun _ _ _ ⟨h1, h2, h3⟩ => by subst h1; subst h2; subst h3; exact O

end Go.Proofs.YtfechgagcgbldaaDoor.Abs
namespace Go.Proofs.YtfechgagcgbldaaDoor.Abs
open Go.RowKit
variable {P : Program} {own : List Nat} {Q : Exit -> St -> Prop} {st : St}

theorem z1a {a b : Code} (h : ∀ K : St -> Prop, (∀ st, awp P own b Q st -> K st) -> awp P own a (zky K Q) st) : awp P own (.seq a b) Q st := h _ fun st h => ⟨st, SealTo.refl st, h⟩
theorem z32 {id : Nat} {l : List Oper} (h : z1f P own (l.map (·.dst)) l (Q .normal) st) : awp P own (.region id l.toArray false) Q st := ⟨fun h => (by cases h), fun _ => h⟩
theorem zcg {id : Nat} {l : List Oper} (h0 : zfl own l.toArray = true) (h : z2n P own (l.map (·.dst)) l (Q .normal) st) : awp P own (.region id l.toArray true) Q st := ⟨fun _ => .inl ⟨h0, h⟩, fun h => (by cases h)⟩
theorem zqh {id : Nat} {l : List Oper} {b : Code} (h : ∀ K : St -> Prop, (∀ st, awp P own b Q st -> K st) -> z1f P own (l.map (·.dst)) l K st) : awp P own (.seq (.region id l.toArray false) b) Q st :=
 z1a fun K hK => z32 (h K hK)
theorem zqe {id : Nat} {l : List Oper} {b : Code} (h0 : zfl own l.toArray = true) (h : ∀ K : St -> Prop, (∀ st, awp P own b Q st -> K st) -> z2n P own (l.map (·.dst)) l K st) : awp P own (.seq (.region id l.toArray true) b) Q st :=
 z1a fun K hK => zcg h0 (h K hK)
theorem zjg {K K' : St -> Prop} {Q Q' : Exit -> St -> Prop} (O : ∀ st, K st -> K' st) (h : ∀ e st, Q e st -> Q' e st) : ∀ e st, zky K Q e st -> zky K' Q' e st := by
 intro e st hq
 cases e with
 | normal => exact O st hq
 | _ => exact h _ st hq
theorem z7u {ops : List (Option Nat)} {K K' : St -> Prop} (h : ∀ st, K st -> K' st) : ∀ (l : List Oper) (st : St), z1f P own ops l K st -> z1f P own ops l K' st
 | [], st, hq => h st hq
 | o :: l, st, hq => by
  simp only [z1f] at hq ⊢
  split
  ·rename_i hg
   rw [hg] at hq
   simp only at hq
   unfold opW at hq ⊢
   split
   ·rename_i hop
    simp only [hop] at hq
    split
    ·rename_i hf
     rw [hf] at hq
     exact AC.mono hq fun r H nx O => z7u h l _ O
    ·rename_i hf
     rw [hf] at hq
     exact AC.mono hq fun r H nx O => z7u h l _ O
    ·rename_i hf1 hf2
     split at hq
     ·rename_i hf3; exact (hf1 _ _ hf3).elim
     ·rename_i hf3; exact (hf2 _ _ hf3).elim
     ·exact hq
   ·rename_i hop
    split at hq
    ·rename_i hop2; exact (hop _ _ _ hop2).elim
    ·split at hq
     ·exact z7u h l _ hq
     ·exact hq
  ·rename_i hg
   rw [hg] at hq
   exact z7u h l _ hq
  ·rename_i hg
   rw [hg] at hq
   exact hq
theorem z3j {ops : List (Option Nat)} {K K' : St -> Prop} (h : ∀ st, K st -> K' st) : ∀ (l : List Oper) (st : St), z2n P own ops l K st -> z2n P own ops l K' st
 | [], st, hq => h st hq
 | o :: l, st, hq => by
  simp only [z2n] at hq ⊢
  split
  ·rename_i hg
   rw [hg] at hq
   simp only at hq
   unfold opD at hq ⊢
   split
   ·rename_i hop
    simp only [hop] at hq
    split
    ·rename_i hf
     rw [hf] at hq
     rcases hq with ⟨h0, ht, r, h1, h2⟩ | ⟨h0, r, h1, h2⟩ | ⟨h0, hm, d, H, nx, h1, h3, h2⟩
     ·exact .inl ⟨h0, ht, r, h1, z3j h l _ h2⟩
     ·exact .inr (.inl ⟨h0, r, h1, z3j h l _ h2⟩)
     ·exact .inr (.inr ⟨h0, hm, d, H, nx, h1, h3, z3j h l _ h2⟩)
    ·rename_i hf
     split at hq
     ·rename_i hf2; exact (hf _ _ hf2).elim
     ·exact hq
   ·rename_i hop
    split at hq
    ·rename_i hop2; exact (hop _ _ _ hop2).elim
    ·split at hq
     ·split at hq
      ·rename_i hok
       rw [if_pos hok]
       exact z3j h l _ hq
      ·cases hq
     ·exact hq
  ·rename_i hg
   rw [hg] at hq
   exact z3j h l _ hq
  ·rename_i hg
   rw [hg] at hq
   exact hq
theorem zsa {ops : Array Oper} {K K' : St -> Prop} (h : ∀ st, K st -> K' st) {st : St} (hq : awpR P own ops K st) : awpR P own ops K' st := by
 rcases hq with ⟨h0, hq⟩ | ⟨a, h0, ha, hq⟩
 ·exact .inl ⟨h0, z3j h _ _ hq⟩
 ·exact .inr ⟨a, h0, ha, z3j (fun st1 h1 => ⟨z3j h _ _ h1.1, z3j h _ _ h1.2⟩) _ _ hq⟩
theorem z4n : ∀ (c : Code) (Q1 Q2 : Exit -> St -> Prop) (st : St), (∀ e st, Q1 e st -> Q2 e st) -> awp P own c Q1 st -> awp P own c Q2 st
 | .skip, _, _, st, hq, h => hq _ st h
 | .region _ _ _, _, _, st, hq, h => ⟨fun V => zsa (hq _) (h.1 V), fun V => z7u (hq _) _ st (h.2 V)⟩
 | .seq a b, Q1, Q2, st, hq, h => z4n a _ _ st (zjg (fun _ ⟨st', hs, h⟩ => ⟨st', hs, z4n b Q1 Q2 st' hq h⟩) hq) h
 | .cond _ x y, Q1, Q2, st, hq, h => by
  obtain ⟨t, h0, h1, h2⟩ := h
  exact ⟨t, h0, fun e => z4n x Q1 Q2 st hq (h1 e), fun e => z4n y Q1 Q2 st hq (h2 e)⟩
 | .block id c, Q1, Q2, st, hq, h => by
  refine z4n c _ _ st (fun e st hb => ?_) h
  cases e with
  | exit id' =>
   simp only [zkz] at hb ⊢
   split
   ·rename_i he; rw [if_pos he] at hb; exact hq _ _ hb
   ·rename_i he; rw [if_neg he] at hb; exact hq _ _ hb
  | _ => exact hq _ _ hb
 | .loop c, Q1, Q2, st, hq, h => by
  obtain ⟨I, h0, h1⟩ := h
  refine ⟨I, h0, fun n st' hI => z4n c _ _ st' (fun e st hb => ?_) (h1 n st' hI)⟩
  cases e with
  | normal => exact hb
  | _ => exact hq _ _ hb
 | .exit _, _, _, st, hq, h => hq _ st h
 | .ret, _, _, st, hq, h => hq _ st h
 | .rangeFunc .., _, _, _, _, h => h.elim
 | .scope _, _, _, _, _, h => h.elim
 | .label _, _, _, _, _, h => h.elim
 | .goto _, _, _, _, _, h => h.elim
 | .refuse _, _, _, _, _, h => h.elim
theorem zqj {a b c : Code} (h : awp P own (.seq a (.seq b c)) Q st) : awp P own (.seq (.seq a b) c) Q st :=
 z4n a _ _ st (fun e st h => by cases e <;> exact h) h
theorem zqm {c : Operand} {x y : Code} (t : Bool) (ht : st.ev c = .bool t) (h1 : t = true -> awp P own x Q st) (h2 : t = false -> awp P own y Q st) : awp P own (.cond c x y) Q st := ⟨t, ht, h1, h2⟩
theorem zqi {id : Nat} {c : Code} (h : awp P own c (zkz id Q) st) : awp P own (.block id c) Q st := h
theorem z4o {c : Code} (I : Nat -> St -> Prop) (n : Nat) (h0 : I n st) (h : ∀ n st', I n st' -> awp P own c (zl0 I n Q) st') : awp P own (.loop c) Q st := ⟨I, ⟨n, h0⟩, h⟩
theorem zqn (h : Q .ret st) : awp P own .ret Q st := h
theorem zqk (h : Q .normal st) : awp P own .skip Q st := h
theorem zql {id : Nat} (h : Q (.exit id) st) : awp P own (.exit id) Q st := h
end Go.Proofs.YtfechgagcgbldaaDoor.Abs
namespace Go.Proofs.YtfechgagcgbldaaDoor.Abs
theorem zsb {P : Program} {t : TypeId} {parts : List (Nat × D)} : z73 P t parts = match z11 P t with
  | some zs => if z2a P t = true then (zfu (fun i => (z0r P t i).map fun (o, ft) => (o, z00 P ft)) zs parts).map .agg else
    match z43 P t with
    | some (_, e) => if z00 P e ≠ 0 then (zfu (fun i => some (i * z00 P e, z00 P e)) zs parts).map .agg else none
    | none => none
  | none => none := by
 unfold z73
 cases z11 P t with
 | none => rfl
 | some zs =>
  unfold z2a z43
  cases hu : P.underlying t with
  | none => rfl
  | some d => cases d <;> simp
attribute [go_sem] zsb
attribute [go_sem] zmv zba z3m z3q z5p z2x z4e z13 z2h z0f zcm z98 z8m z4b zfu z1i zhm zmw zbb zhn unD zmx zt3 minD zeb z8v z4x
attribute [go_sem] List.getElem?_cons_zero List.getElem?_cons_succ Option.getD_some Option.map_some Option.map_none Option.bind_some Option.bind_none if_true if_false List.length_map List.map_cons List.map_nil List.any_cons List.any_nil Bool.or_false Bool.false_eq_true and_self true_and and_true
end Go.Proofs.YtfechgagcgbldaaDoor.Abs
namespace Go.Proofs.YtfechgagcgbldaaDoor.Abs
open Go.RowKit

def z3x (o : Option D) (f : List Oper -> (St -> Prop) -> St -> Prop) (rest : List Oper) (K : St -> Prop) (st : St) (dst : Option Nat) : Prop := match o with | some d => f rest K (st.put dst d) | none => False
def zv3 (e : TypeId) (o : Option (List D)) (f : List Oper -> (St -> Prop) -> St -> Prop) (rest : List Oper) (K : St -> Prop) (st : St) (dst : Option Nat) : Prop :=
 match o with | some cs => f rest K ((st.withH (z0u st.H st.nx (some (.box e cs))) (st.nx + 1)).put dst (.ptr st.nx 0)) | none => False
def zsc (o : Option HM) (f : List Oper -> (St -> Prop) -> St -> Prop) (rest : List Oper) (K : St -> Prop) (st : St) (dst : Option Nat) : Prop := match o with | some H => f rest K ((st.withH H st.nx).put dst .any) | none => False
def ze3 (o : Option (D × HM × Nat)) (f : List Oper -> (St -> Prop) -> St -> Prop) (rest : List Oper) (K : St -> Prop) (st : St) (dst : Option Nat) : Prop := match o with | some (d, H, nx) => f rest K ((st.withH H nx).put dst d) | none => False
def z8l (b : Bool) (p : Prop) : Prop := if b = true then p else False
def okA (own : List Nat) (dst : Option Nat) (st : St) : Bool := if z06 7000000 own dst = true then decide (z1p own <= st.nx) else true
def okS (own : List Nat) (dst : Option Nat) (st : St) : Bool := if z06 7000000 own dst = true /\ zec own dst = true then decide (z1p own <= st.nx) else true
def okQ (own : List Nat) (dst : Option Nat) (st : St) (x : D) : Bool := if z06 7000000 own dst = true then (match x with | .osl id _ => decide (z1p own <= id /\ z1p own <= st.nx) | _ => decide (z1p own <= st.nx)) else true
theorem z6c (b : Bool) : z8l b False = False := by unfold z8l; split <;> rfl
def zsd (g : Option Bool) (f : List Oper -> (St -> Prop) -> St -> Prop) (o : Oper) (rest : List Oper) (K : St -> Prop) (st : St) : Prop := match g with | some true => f (o :: rest) K st | some false => f rest K (st.put o.dst (.tup [])) | none => False
section
variable {f : List Oper -> (St -> Prop) -> St -> Prop} {rest : List Oper} {K : St -> Prop} {st : St} {dst : Option Nat}
@[go_sem] theorem zzj (p : Prop) : z8l true p = p := by unfold z8l; simp
@[go_sem] theorem zzk (d : D) : z3x (some d) f rest K st dst = f rest K (st.put dst d) := rfl
@[go_sem] theorem zzl (e : TypeId) (cs : List D) : zv3 e (some cs) f rest K st dst = f rest K ((st.withH (z0u st.H st.nx (some (.box e cs))) (st.nx + 1)).put dst (.ptr st.nx 0)) := rfl
@[go_sem] theorem zzm (H : HM) : zsc (some H) f rest K st dst = f rest K ((st.withH H st.nx).put dst .any) := rfl
@[go_sem] theorem zzn (d : D) (H : HM) (nx : Nat) : ze3 (some (d, H, nx)) f rest K st dst = f rest K ((st.withH H nx).put dst d) := rfl
@[go_sem] theorem zzo (o : Oper) : zsd (some true) f o rest K st = f (o :: rest) K st := rfl
@[go_sem] theorem zy9 {op : Op} {ty : TypeId} {pos : String} {aft : Array Edge} {g : Option (Nat × Bool)} : zsd (some false) f ⟨dst, op, ty, pos, aft, g⟩ rest K st = f rest K (st.put dst (.tup [])) := rfl
end

def z6v (P : Program) (own : List Nat) (dst : Option Nat) (ty : TypeId) (st : St) (x : D) : Option (D × HM × Nat) :=
 match x with
 | .nil => if zec own dst = true then (z0p P ty).map fun e => (.osl st.nx 0, z0u st.H st.nx (some (.row e 0 [])), st.nx + 1) else some (.nil, st.H, st.nx)
 | d => some (d, st.H, st.nx)
def z2f (P : Program) (own : List Nat) (dst : Option Nat) (st : St) (t : TypeId) (len : Nat) (is : List Nat) (els : List D) : Option (D × HM × Nat) :=
 match z0p P t with
 | some e =>
  if z00 P e ≠ 0 /\ z5r is 0 len = true /\ len * z00 P e <= 16777216 /\ (len = 0 \/ z0d P e = true) then
   (z1i (z00 P e) els).bind fun cs =>
    if zec own dst = true then some (.osl st.nx len, z0u st.H st.nx (some (.row e len cs)), st.nx + 1)
    else if z06 1000000 own dst = true /\ len = 0 then some (.e0, st.H, st.nx)
    else some (.rsl true (z00 P e) els, st.H, st.nx)
  else none
 | none => none
def z6w (P : Program) (own : List Nat) (dst : Option Nat) (st : St) (t : TypeId) (x y : D) : Option (D × HM × Nat) :=
 if z06 1000000 own dst = true then (zco P st.H t x y).map fun d => (d, st.H, st.nx)
 else if z06 2000000 own dst = true then (z4x P st.H st.nx t x y).bind (zcp P)
 else z4x P st.H st.nx t x y
def z6d (P : Program) (st : St) (t : TypeId) (l c : D) : Option (D × HM × Nat) :=
 match z0p P t, l, c with
 | some e, .int _ l, .int _ c => if l = c /\ 0 <= l /\ l.toNat * z0j P e <= 140737488355328 /\ l <= 9223372036854775807 /\ 0 < z00 P e then
   (z11 P e).map fun zs => (.osl st.nx l.toNat, z0u st.H st.nx (some (.row e l.toNat (List.replicate l.toNat zs).flatten)), st.nx + 1) else none
 | _, _, _ => none
def fieldD (P : Program) (t : TypeId) (x : D) (f : Nat) : Option D :=
 match z0r P t f, x with
 | some (o, ft), .agg ds => z3q P ft ds o
 | _, _ => none
def zac (x : D) (i : Nat) : Option D := match x with | .tup ds => ds[i]? | _ => none
def zse (x : D) : Option D := match x with | .rptr d => some (.rptr d) | .ptr id off => some (.ptr id off) | _ => none
attribute [go_sem] z06 isG okG z8w z8g hmG z1p zoq okA okS okQ okT zrz okU zj5 z95 tcM z6w zco zcp zjt pureD pureD.pureL
@[go_sem] theorem zya (ag : Bool) (sz : Nat) (cs : List D) : z1e ag sz 0 cs = [] := rfl
@[go_sem] theorem zyb (ag : Bool) (sz n : Nat) (c : D) (cs : List D) : z1e ag sz (n + 1) (c :: cs) = (if ag = true then .agg ((c :: cs).take sz) else c) :: z1e ag sz n ((c :: cs).drop sz) := rfl
attribute [go_sem] z5q z4w esD zmy zow z61 eqK z2y zjs zbz
attribute [go_sem] zec z5r z6v z2f zn0 zth zcr zju zcs u8T z6d fieldD zac zse

@[go_sem] theorem ev_tmp (st : St) (i : Nat) : st.ev (.tmp i) = st.t i := rfl
@[go_sem] theorem ev_const (st : St) (v : Value) : st.ev (.const v) = zmv v := rfl
@[go_sem] theorem ev_func (st : St) (f : FuncId) : st.ev (.func f) = .fn f [] := rfl
@[go_sem] theorem ev_global (st : St) (g : Nat) : st.ev (.global g) = globD g := rfl
attribute [go_sem] globD
@[go_sem] theorem put_none (st : St) (d : D) : st.put none d = st := rfl
@[go_sem] theorem t_put (st : St) (i j : Nat) (d : D) : (st.put (some i) d).t j = cond (j == i) d (st.t j) := by
 simp only [St.put, zt1]
 by_cases h : j = i
 ·subst h; simp
 ·have : (j == i) = false := by simpa using h
  rw [if_neg h, this]; rfl
attribute [go_sem] id_eq List.map_cons List.map_nil
@[go_sem] theorem H_put (st : St) (dst : Option Nat) (d : D) : (st.put dst d).H = st.H := zo2 st dst d
@[go_sem] theorem nx_put (st : St) (dst : Option Nat) (d : D) : (st.put dst d).nx = st.nx := zm7 st dst d
@[go_sem] theorem t_withH (st : St) (H : HM) (nx j : Nat) : (st.withH H nx).t j = st.t j := rfl
@[go_sem] theorem H_withH (st : St) (H : HM) (nx : Nat) : (st.withH H nx).H = H := rfl
@[go_sem] theorem nx_withH (st : St) (H : HM) (nx : Nat) : (st.withH H nx).nx = nx := rfl
@[go_sem] theorem withH_id (st : St) : st.withH st.H st.nx = st := rfl
@[go_sem] theorem t_st0 (ds : List D) (H : HM) (nx i : Nat) : (st0 ds H nx).t i = (ds[i]?).getD .any := rfl
@[go_sem] theorem H_st0 (ds : List D) (H : HM) (nx : Nat) : (st0 ds H nx).H = H := rfl
@[go_sem] theorem nx_st0 (ds : List D) (H : HM) (nx : Nat) : (st0 ds H nx).nx = nx := rfl
@[go_sem] theorem updH_at (H : HM) (i j : Nat) (o : Option HObj) : z0u H i o j = cond (j == i) o (H j) := by
 unfold z0u
 by_cases h : j = i
 ·subst h; simp
 ·have : (j == i) = false := by simpa using h
  rw [if_neg h, this]; rfl
attribute [go_sem] cond_true cond_false
@[go_sem] theorem beq_tt (b : Bool) : (b == true) = b := by cases b <;> rfl
@[go_sem] theorem beq_ff (b : Bool) : (b == false) = !b := by cases b <;> rfl

section
variable {P : Program} {own : List Nat} {ops : List (Option Nat)} {rest : List Oper} {K : St -> Prop} {st : St} {dst : Option Nat} {ty : TypeId} {pos : String} {aft : Array Edge}
@[go_sem] theorem awpL_nil : z1f P own ops [] K st = K st := rfl
@[go_sem] theorem awpD_nil : z2n P own ops [] K st = K st := rfl
def ze4 (ops : List (Option Nat)) (st : St) (j : Nat) (want : Bool) : Option Bool :=
 match (ops[j]?).bind id with
 | some i => match st.t i with
  | .bool b => some (b == want)
  | .tup _ => some false
  | _ => none
 | none => none
attribute [go_sem] ze4
@[go_sem] theorem zzp {op : Op} {j : Nat} {want : Bool} : z1f P own ops (⟨dst, op, ty, pos, aft, some (j, want)⟩ :: rest) K st = zsd (ze4 ops st j want) (z1f P own ops) ⟨dst, op, ty, pos, aft, none⟩ rest K st := by
 have h : za6 ops st ⟨dst, op, ty, pos, aft, some (j, want)⟩ = ze4 ops st j want := rfl
 have h2 : za6 ops st ⟨dst, op, ty, pos, aft, none⟩ = some true := rfl
 simp only [z1f, h, h2]
 cases ze4 ops st j want with
 | none => rfl
 | some g => cases g <;> rfl
@[go_sem] theorem zzq {op : Op} {j : Nat} {want : Bool} : z2n P own ops (⟨dst, op, ty, pos, aft, some (j, want)⟩ :: rest) K st = zsd (ze4 ops st j want) (z2n P own ops) ⟨dst, op, ty, pos, aft, none⟩ rest K st := by
 have h : za6 ops st ⟨dst, op, ty, pos, aft, some (j, want)⟩ = ze4 ops st j want := rfl
 have h2 : za6 ops st ⟨dst, op, ty, pos, aft, none⟩ = some true := rfl
 simp only [z2n, h, h2]
 cases ze4 ops st j want with
 | none => rfl
 | some g => cases g <;> rfl
@[go_sem] theorem awpL_move {x : Operand} : z1f P own ops (⟨dst, .move x, ty, pos, aft, none⟩ :: rest) K st = z1f P own ops rest K (st.put dst (st.ev x)) := by
 rfl
@[go_sem] theorem awpD_move {x : Operand} : z2n P own ops (⟨dst, .move x, ty, pos, aft, none⟩ :: rest) K st = z2n P own ops rest K (st.put dst (st.ev x)) := by
 rfl
@[go_sem] theorem zyc {x : Operand} : z1f P own ops (⟨dst, .assign x, ty, pos, aft, none⟩ :: rest) K st = ze3 (z6v P own dst ty st (st.ev x)) (z1f P own ops) rest K st dst := by
 show (match opR P own ⟨dst, .assign x, ty, pos, aft, none⟩ st with | some (d, H, nx) => z1f P own ops rest K ({ st with H := H, nx := nx }.put dst d) | none => False) = _
 have h : opR P own ⟨dst, .assign x, ty, pos, aft, none⟩ st = z6v P own dst ty st (st.ev x) := by
  first | rfl | (simp only [opR, z6v]; split <;> rfl)
 rw [h]; cases (z6v P own dst ty st (st.ev x)) <;> rfl
@[go_sem] theorem zyd {x : Operand} : z2n P own ops (⟨dst, .assign x, ty, pos, aft, none⟩ :: rest) K st = ze3 (z6v P own dst ty st (st.ev x)) (z2n P own ops) rest K st dst := by
 show (match opR P own ⟨dst, .assign x, ty, pos, aft, none⟩ st with | some (d, H, nx) => z2n P own ops rest K ({ st with H := H, nx := nx }.put dst d) | none => False) = _
 have h : opR P own ⟨dst, .assign x, ty, pos, aft, none⟩ st = z6v P own dst ty st (st.ev x) := by
  first | rfl | (simp only [opR, z6v]; split <;> rfl)
 rw [h]; cases (z6v P own dst ty st (st.ev x)) <;> rfl
@[go_sem] theorem awpL_pick {c a b : Operand} : z1f P own ops (⟨dst, .pick c a b, ty, pos, aft, none⟩ :: rest) K st = z3x (zeb (st.ev c) (st.ev a) (st.ev b)) (z1f P own ops) rest K st dst := by
 show (match opR P own ⟨dst, .pick c a b, ty, pos, aft, none⟩ st with | some (d, H, nx) => z1f P own ops rest K ({ st with H := H, nx := nx }.put dst d) | none => False) = _
 have h : opR P own ⟨dst, .pick c a b, ty, pos, aft, none⟩ st = st.keep (zeb (st.ev c) (st.ev a) (st.ev b)) := by
  first | rfl | simp only [opR]
 rw [h]; cases (zeb (st.ev c) (st.ev a) (st.ev b)) <;> rfl
@[go_sem] theorem awpD_pick {c a b : Operand} : z2n P own ops (⟨dst, .pick c a b, ty, pos, aft, none⟩ :: rest) K st = z3x (zeb (st.ev c) (st.ev a) (st.ev b)) (z2n P own ops) rest K st dst := by
 show (match opR P own ⟨dst, .pick c a b, ty, pos, aft, none⟩ st with | some (d, H, nx) => z2n P own ops rest K ({ st with H := H, nx := nx }.put dst d) | none => False) = _
 have h : opR P own ⟨dst, .pick c a b, ty, pos, aft, none⟩ st = st.keep (zeb (st.ev c) (st.ev a) (st.ev b)) := by
  first | rfl | simp only [opR]
 rw [h]; cases (zeb (st.ev c) (st.ev a) (st.ev b)) <;> rfl
@[go_sem] theorem zzr {e : TypeId} : z1f P own ops (⟨dst, .alloc e, ty, pos, aft, none⟩ :: rest) K st = zv3 e (z11 P e) (z1f P own ops) rest K st dst := by
 show (match opR P own ⟨dst, .alloc e, ty, pos, aft, none⟩ st with | some (d, H, nx) => z1f P own ops rest K ({ st with H := H, nx := nx }.put dst d) | none => False) = _
 have h : opR P own ⟨dst, .alloc e, ty, pos, aft, none⟩ st = (z11 P e).map fun x => (.ptr st.nx 0, z0u st.H st.nx (some (.box e x)), st.nx + 1) := by rfl
 rw [h]; cases (z11 P e) <;> rfl
@[go_sem] theorem zzs {e : TypeId} : z2n P own ops (⟨dst, .alloc e, ty, pos, aft, none⟩ :: rest) K st = z8l (okA own dst st) (zv3 e (z11 P e) (z2n P own ops) rest K st dst) := by
 show (match opR P own ⟨dst, .alloc e, ty, pos, aft, none⟩ st with | some (d, H, nx) => z8l (okA own dst st) (z2n P own ops rest K ({ st with H := H, nx := nx }.put dst d)) | none => False) = _
 have h : opR P own ⟨dst, .alloc e, ty, pos, aft, none⟩ st = (z11 P e).map fun x => (.ptr st.nx 0, z0u st.H st.nx (some (.box e x)), st.nx + 1) := by rfl
 rw [h]; cases (z11 P e) <;> first | exact (z6c _).symm | rfl
@[go_sem] theorem awpL_box {e : TypeId} {x : Operand} : z1f P own ops (⟨dst, .box e x, ty, pos, aft, none⟩ :: rest) K st = zv3 e (z3m (st.ev x)) (z1f P own ops) rest K st dst := by
 show (match opR P own ⟨dst, .box e x, ty, pos, aft, none⟩ st with | some (d, H, nx) => z1f P own ops rest K ({ st with H := H, nx := nx }.put dst d) | none => False) = _
 have h : opR P own ⟨dst, .box e x, ty, pos, aft, none⟩ st = (z3m (st.ev x)).map fun x => (.ptr st.nx 0, z0u st.H st.nx (some (.box e x)), st.nx + 1) := by rfl
 rw [h]; cases (z3m (st.ev x)) <;> rfl
@[go_sem] theorem zzt {t : TypeId} {parts : Array (Nat × Operand)} : z1f P own ops (⟨dst, .build t parts, ty, pos, aft, none⟩ :: rest) K st = z3x (z73 P t (parts.toList.map fun (i, x) => (i, st.ev x))) (z1f P own ops) rest K st dst := by
 show (match opR P own ⟨dst, .build t parts, ty, pos, aft, none⟩ st with | some (d, H, nx) => z1f P own ops rest K ({ st with H := H, nx := nx }.put dst d) | none => False) = _
 have h : opR P own ⟨dst, .build t parts, ty, pos, aft, none⟩ st = st.keep (z73 P t (parts.toList.map fun (i, x) => (i, st.ev x))) := by
  first | rfl | simp only [opR]
 rw [h]; cases (z73 P t (parts.toList.map fun (i, x) => (i, st.ev x))) <;> rfl
@[go_sem] theorem zzu {t : TypeId} {parts : Array (Nat × Operand)} : z2n P own ops (⟨dst, .build t parts, ty, pos, aft, none⟩ :: rest) K st = z3x (z73 P t (parts.toList.map fun (i, x) => (i, st.ev x))) (z2n P own ops) rest K st dst := by
 show (match opR P own ⟨dst, .build t parts, ty, pos, aft, none⟩ st with | some (d, H, nx) => z2n P own ops rest K ({ st with H := H, nx := nx }.put dst d) | none => False) = _
 have h : opR P own ⟨dst, .build t parts, ty, pos, aft, none⟩ st = st.keep (z73 P t (parts.toList.map fun (i, x) => (i, st.ev x))) := by
  first | rfl | simp only [opR]
 rw [h]; cases (z73 P t (parts.toList.map fun (i, x) => (i, st.ev x))) <;> rfl
@[go_sem] theorem zsf {t : TypeId} {len : Nat} {parts : Array (Nat × Operand)} : z1f P own ops (⟨dst, .buildSlice t len parts, ty, pos, aft, none⟩ :: rest) K st = ze3 (z2f P own dst st t len (parts.toList.map (·.1)) (parts.toList.map fun x => st.ev x.2)) (z1f P own ops) rest K st dst := by
 show (match opR P own ⟨dst, .buildSlice t len parts, ty, pos, aft, none⟩ st with | some (d, H, nx) => z1f P own ops rest K ({ st with H := H, nx := nx }.put dst d) | none => False) = _
 have h : opR P own ⟨dst, .buildSlice t len parts, ty, pos, aft, none⟩ st = z2f P own dst st t len (parts.toList.map (·.1)) (parts.toList.map fun x => st.ev x.2) := by
  first | rfl | (simp only [opR, z2f])
 rw [h]; cases (z2f P own dst st t len (parts.toList.map (·.1)) (parts.toList.map fun x => st.ev x.2)) <;> rfl
@[go_sem] theorem zsg {t : TypeId} {len : Nat} {parts : Array (Nat × Operand)} : z2n P own ops (⟨dst, .buildSlice t len parts, ty, pos, aft, none⟩ :: rest) K st = z8l (okS own dst st) (ze3 (z2f P own dst st t len (parts.toList.map (·.1)) (parts.toList.map fun x => st.ev x.2)) (z2n P own ops) rest K st dst) := by
 show (match opR P own ⟨dst, .buildSlice t len parts, ty, pos, aft, none⟩ st with | some (d, H, nx) => z8l (okS own dst st) (z2n P own ops rest K ({ st with H := H, nx := nx }.put dst d)) | none => False) = _
 have h : opR P own ⟨dst, .buildSlice t len parts, ty, pos, aft, none⟩ st = z2f P own dst st t len (parts.toList.map (·.1)) (parts.toList.map fun x => st.ev x.2) := by
  first | rfl | (simp only [opR, z2f])
 rw [h]; cases (z2f P own dst st t len (parts.toList.map (·.1)) (parts.toList.map fun x => st.ev x.2)) <;> first | exact (z6c _).symm | rfl
@[go_sem] theorem awpL_load {t : TypeId} {p : Operand} : z1f P own ops (⟨dst, .load t p, ty, pos, aft, none⟩ :: rest) K st = z3x (z8w P own dst st.H st.nx t (st.ev p)) (z1f P own ops) rest K st dst := by
 show (match opR P own ⟨dst, .load t p, ty, pos, aft, none⟩ st with | some (d, H, nx) => z1f P own ops rest K ({ st with H := H, nx := nx }.put dst d) | none => False) = _
 have h : opR P own ⟨dst, .load t p, ty, pos, aft, none⟩ st = st.keep (z8w P own dst st.H st.nx t (st.ev p)) := by
  first | rfl | simp only [opR]
 rw [h]; cases (z8w P own dst st.H st.nx t (st.ev p)) <;> rfl
@[go_sem] theorem awpD_load {t : TypeId} {p : Operand} : z2n P own ops (⟨dst, .load t p, ty, pos, aft, none⟩ :: rest) K st = z8l (okT own dst (st.ev p) && okU own dst (st.ev p) && okG own dst st.nx (st.ev p)) (z3x (z8w P own dst st.H st.nx t (st.ev p)) (z2n P own ops) rest K st dst) := by
 show (match opR P own ⟨dst, .load t p, ty, pos, aft, none⟩ st with | some (d, H, nx) => z8l (okT own dst (st.ev p) && okU own dst (st.ev p) && okG own dst st.nx (st.ev p)) (z2n P own ops rest K ({ st with H := H, nx := nx }.put dst d)) | none => False) = _
 have h : opR P own ⟨dst, .load t p, ty, pos, aft, none⟩ st = st.keep (z8w P own dst st.H st.nx t (st.ev p)) := by
  first | rfl | simp only [opR]
 rw [h]; cases (z8w P own dst st.H st.nx t (st.ev p)) <;> first | exact (z6c _).symm | rfl
@[go_sem] theorem zzv {t : TypeId} {p v : Operand} : z1f P own ops (⟨dst, .store t p v, ty, pos, aft, none⟩ :: rest) K st = zsc (z4e P st.H t (st.ev p) (st.ev v)) (z1f P own ops) rest K st dst := by
 show (match opR P own ⟨dst, .store t p v, ty, pos, aft, none⟩ st with | some (d, H, nx) => z1f P own ops rest K ({ st with H := H, nx := nx }.put dst d) | none => False) = _
 have h : opR P own ⟨dst, .store t p v, ty, pos, aft, none⟩ st = (z4e P st.H t (st.ev p) (st.ev v)).map fun x => (.any, x, st.nx) := by rfl
 rw [h]; cases (z4e P st.H t (st.ev p) (st.ev v)) <;> rfl
@[go_sem] theorem zzw {t : TypeId} {p v : Operand} : z2n P own ops (⟨dst, .store t p v, ty, pos, aft, none⟩ :: rest) K st = z8l (okT own (zj5 p) (st.ev p)) (zsc (z4e P st.H t (st.ev p) (st.ev v)) (z2n P own ops) rest K st dst) := by
 show (match opR P own ⟨dst, .store t p v, ty, pos, aft, none⟩ st with | some (d, H, nx) => z8l (okT own (zj5 p) (st.ev p)) (z2n P own ops rest K ({ st with H := H, nx := nx }.put dst d)) | none => False) = _
 have h : opR P own ⟨dst, .store t p v, ty, pos, aft, none⟩ st = (z4e P st.H t (st.ev p) (st.ev v)).map fun x => (.any, x, st.nx) := by rfl
 rw [h]; cases (z4e P st.H t (st.ev p) (st.ev v)) <;> first | exact (z6c _).symm | rfl
@[go_sem] theorem zwl {t : TypeId} : z1f P own ops (⟨dst, .makeMap t none, ty, pos, aft, none⟩ :: rest) K st = ze3 ((z39 P t).map fun _ => (.mp st.nx, z0u st.H st.nx (some (.map [])), st.nx + 1)) (z1f P own ops) rest K st dst := by
 show (match opR P own ⟨dst, .makeMap t none, ty, pos, aft, none⟩ st with | some (d, H, nx) => z1f P own ops rest K ({ st with H := H, nx := nx }.put dst d) | none => False) = _
 have h : opR P own ⟨dst, .makeMap t none, ty, pos, aft, none⟩ st = (z39 P t).map fun _ => (.mp st.nx, z0u st.H st.nx (some (.map [])), st.nx + 1) := by rfl
 rw [h]
 cases z39 P t <;> rfl
@[go_sem] theorem zzx {t : TypeId} {x : Operand} : z1f P own ops (⟨dst, .range t x, ty, pos, aft, none⟩ :: rest) K st = ze3 ((zcr P t (st.ev x)).map fun q => (.it st.nx, z0u st.H st.nx (some (.raw q)), st.nx + 1)) (z1f P own ops) rest K st dst := by
 show (match opR P own ⟨dst, .range t x, ty, pos, aft, none⟩ st with | some (d, H, nx) => z1f P own ops rest K ({ st with H := H, nx := nx }.put dst d) | none => False) = _
 have h : opR P own ⟨dst, .range t x, ty, pos, aft, none⟩ st = (zcr P t (st.ev x)).map fun q => (.it st.nx, z0u st.H st.nx (some (.raw q)), st.nx + 1) := by rfl
 rw [h]
 cases zcr P t (st.ev x) <;> rfl
@[go_sem] theorem awpL_next {x : Operand} {b : Bool} : z1f P own ops (⟨dst, .next x b, ty, pos, aft, none⟩ :: rest) K st = ze3 (zju st.H st.nx b (st.ev x)) (z1f P own ops) rest K st dst := by
 show (match opR P own ⟨dst, .next x b, ty, pos, aft, none⟩ st with | some (d, H, nx) => z1f P own ops rest K ({ st with H := H, nx := nx }.put dst d) | none => False) = _
 have h : opR P own ⟨dst, .next x b, ty, pos, aft, none⟩ st = zju st.H st.nx b (st.ev x) := by rfl
 rw [h]
 rcases zju st.H st.nx b (st.ev x) with _ | ⟨d, H, nx⟩ <;> rfl
@[go_sem] theorem zye {t : TypeId} {x k : Operand} {ok : Bool} : z1f P own ops (⟨dst, .lookup t x k ok, ty, pos, aft, none⟩ :: rest) K st = z3x (z5q P st.H t (st.ev x) (st.ev k) ok) (z1f P own ops) rest K st dst := by
 show (match opR P own ⟨dst, .lookup t x k ok, ty, pos, aft, none⟩ st with | some (d, H, nx) => z1f P own ops rest K ({ st with H := H, nx := nx }.put dst d) | none => False) = _
 have h : opR P own ⟨dst, .lookup t x k ok, ty, pos, aft, none⟩ st = st.keep (z5q P st.H t (st.ev x) (st.ev k) ok) := by rfl
 rw [h]
 cases z5q P st.H t (st.ev x) (st.ev k) ok <;> rfl
@[go_sem] theorem zyf {t : TypeId} {x k : Operand} {ok : Bool} : z2n P own ops (⟨dst, .lookup t x k ok, ty, pos, aft, none⟩ :: rest) K st = z3x (z5q P st.H t (st.ev x) (st.ev k) ok) (z2n P own ops) rest K st dst := by
 show (match opR P own ⟨dst, .lookup t x k ok, ty, pos, aft, none⟩ st with | some (d, H, nx) => z2n P own ops rest K ({ st with H := H, nx := nx }.put dst d) | none => False) = _
 have h : opR P own ⟨dst, .lookup t x k ok, ty, pos, aft, none⟩ st = st.keep (z5q P st.H t (st.ev x) (st.ev k) ok) := by rfl
 rw [h]
 cases z5q P st.H t (st.ev x) (st.ev k) ok <;> rfl
@[go_sem] theorem zt8 {t : TypeId} {m k x : Operand} : z1f P own ops (⟨dst, .mapUpdate t m k x, ty, pos, aft, none⟩ :: rest) K st = zsc (z4w P st.H t (st.ev m) (st.ev k) (st.ev x)) (z1f P own ops) rest K st dst := by
 show (match opR P own ⟨dst, .mapUpdate t m k x, ty, pos, aft, none⟩ st with | some (d, H, nx) => z1f P own ops rest K ({ st with H := H, nx := nx }.put dst d) | none => False) = _
 have h : opR P own ⟨dst, .mapUpdate t m k x, ty, pos, aft, none⟩ st = (z4w P st.H t (st.ev m) (st.ev k) (st.ev x)).map fun x => (.any, x, st.nx) := by rfl
 rw [h]
 cases z4w P st.H t (st.ev m) (st.ev k) (st.ev x) <;> rfl
@[go_sem] theorem zyg {t : TypeId} {m k x : Operand} : z1f P own ops (⟨dst, .insert t m k x, ty, pos, aft, none⟩ :: rest) K st = zsc (z4w P st.H t (st.ev m) (st.ev k) (st.ev x)) (z1f P own ops) rest K st dst := by
 show (match opR P own ⟨dst, .insert t m k x, ty, pos, aft, none⟩ st with | some (d, H, nx) => z1f P own ops rest K ({ st with H := H, nx := nx }.put dst d) | none => False) = _
 have h : opR P own ⟨dst, .insert t m k x, ty, pos, aft, none⟩ st = (z4w P st.H t (st.ev m) (st.ev k) (st.ev x)).map fun x => (.any, x, st.nx) := by rfl
 rw [h]
 cases z4w P st.H t (st.ev m) (st.ev k) (st.ev x) <;> rfl
@[go_sem] theorem zzy {op : BinOp} {t u : TypeId} {x y : Operand} : z1f P own ops (⟨dst, .binOp op t x y u, ty, pos, aft, none⟩ :: rest) K st = z3x (zmw P op t (st.ev x) (st.ev y)) (z1f P own ops) rest K st dst := by
 show (match opR P own ⟨dst, .binOp op t x y u, ty, pos, aft, none⟩ st with | some (d, H, nx) => z1f P own ops rest K ({ st with H := H, nx := nx }.put dst d) | none => False) = _
 have h : opR P own ⟨dst, .binOp op t x y u, ty, pos, aft, none⟩ st = st.keep (zmw P op t (st.ev x) (st.ev y)) := by
  first | rfl | simp only [opR]
 rw [h]; cases (zmw P op t (st.ev x) (st.ev y)) <;> rfl
@[go_sem] theorem zzz {op : BinOp} {t u : TypeId} {x y : Operand} : z2n P own ops (⟨dst, .binOp op t x y u, ty, pos, aft, none⟩ :: rest) K st = z3x (zmw P op t (st.ev x) (st.ev y)) (z2n P own ops) rest K st dst := by
 show (match opR P own ⟨dst, .binOp op t x y u, ty, pos, aft, none⟩ st with | some (d, H, nx) => z2n P own ops rest K ({ st with H := H, nx := nx }.put dst d) | none => False) = _
 have h : opR P own ⟨dst, .binOp op t x y u, ty, pos, aft, none⟩ st = st.keep (zmw P op t (st.ev x) (st.ev y)) := by
  first | rfl | simp only [opR]
 rw [h]; cases (zmw P op t (st.ev x) (st.ev y)) <;> rfl
@[go_sem] theorem awpL_unOp {op : UnOp} {t : TypeId} {x : Operand} : z1f P own ops (⟨dst, .unOp op t x, ty, pos, aft, none⟩ :: rest) K st = z3x (unD op (st.ev x)) (z1f P own ops) rest K st dst := by
 show (match opR P own ⟨dst, .unOp op t x, ty, pos, aft, none⟩ st with | some (d, H, nx) => z1f P own ops rest K ({ st with H := H, nx := nx }.put dst d) | none => False) = _
 have h : opR P own ⟨dst, .unOp op t x, ty, pos, aft, none⟩ st = st.keep (unD op (st.ev x)) := by
  first | rfl | simp only [opR]
 rw [h]; cases (unD op (st.ev x)) <;> rfl
@[go_sem] theorem zwm {s t : TypeId} {x : Operand} : z1f P own ops (⟨dst, .convert s t x, ty, pos, aft, none⟩ :: rest) K st = z3x (zn0 P s t (st.ev x)) (z1f P own ops) rest K st dst := by
 show (match opR P own ⟨dst, .convert s t x, ty, pos, aft, none⟩ st with | some (d, H, nx) => z1f P own ops rest K ({ st with H := H, nx := nx }.put dst d) | none => False) = _
 have h : opR P own ⟨dst, .convert s t x, ty, pos, aft, none⟩ st = st.keep (zn0 P s t (st.ev x)) := by
  first | rfl | simp only [opR]
 rw [h]; cases (zn0 P s t (st.ev x)) <;> rfl
@[go_sem] theorem zv4 {f : FuncId} {cap : Array Operand} : z1f P own ops (⟨dst, .makeFunc (.func f) #[] cap, ty, pos, aft, none⟩ :: rest) K st = z1f P own ops rest K (st.put dst (.fn f (cap.toList.map st.ev))) := by
 rfl
@[go_sem] theorem zv5 {f : FuncId} {x : Operand} {l : List Operand} : z1f P own ops (⟨dst, .makeFunc (.func f) (x :: l).toArray #[], ty, pos, aft, none⟩ :: rest) K st = z1f P own ops rest K (st.put dst (.bfn f ((x :: l).map st.ev))) := by
 rfl
@[go_sem] theorem zt9 {t : TypeId} {l c : Operand} : z1f P own ops (⟨dst, .makeSlice t l c, ty, pos, aft, none⟩ :: rest) K st = ze3 (z6d P st t (st.ev l) (st.ev c)) (z1f P own ops) rest K st dst := by
 show (match opR P own ⟨dst, .makeSlice t l c, ty, pos, aft, none⟩ st with | some (d, H, nx) => z1f P own ops rest K ({ st with H := H, nx := nx }.put dst d) | none => False) = _
 have h : opR P own ⟨dst, .makeSlice t l c, ty, pos, aft, none⟩ st = z6d P st t (st.ev l) (st.ev c) := by
  first | rfl | (simp only [opR, z6d]; split <;> rfl)
 rw [h]; cases (z6d P st t (st.ev l) (st.ev c)) <;> rfl
@[go_sem] theorem z000 {t : TypeId} {x : Operand} {lo hi : Option Operand} : z1f P own ops (⟨dst, .slice t x lo hi none, ty, pos, aft, none⟩ :: rest) K st = z3x (z8m P t (st.ev x) (lo.map st.ev) (hi.map st.ev)) (z1f P own ops) rest K st dst := by
 show (match opR P own ⟨dst, .slice t x lo hi none, ty, pos, aft, none⟩ st with | some (d, H, nx) => z1f P own ops rest K ({ st with H := H, nx := nx }.put dst d) | none => False) = _
 have h : opR P own ⟨dst, .slice t x lo hi none, ty, pos, aft, none⟩ st = st.keep (z8m P t (st.ev x) (lo.map st.ev) (hi.map st.ev)) := by
  first | rfl | simp only [opR]
 rw [h]; cases (z8m P t (st.ev x) (lo.map st.ev) (hi.map st.ev)) <;> rfl
@[go_sem] theorem z001 {t : TypeId} {x : Operand} {lo hi : Option Operand} : z2n P own ops (⟨dst, .slice t x lo hi none, ty, pos, aft, none⟩ :: rest) K st = z3x (z8m P t (st.ev x) (lo.map st.ev) (hi.map st.ev)) (z2n P own ops) rest K st dst := by
 show (match opR P own ⟨dst, .slice t x lo hi none, ty, pos, aft, none⟩ st with | some (d, H, nx) => z2n P own ops rest K ({ st with H := H, nx := nx }.put dst d) | none => False) = _
 have h : opR P own ⟨dst, .slice t x lo hi none, ty, pos, aft, none⟩ st = st.keep (z8m P t (st.ev x) (lo.map st.ev) (hi.map st.ev)) := by
  first | rfl | simp only [opR]
 rw [h]; cases (z8m P t (st.ev x) (lo.map st.ev) (hi.map st.ev)) <;> rfl
@[go_sem] theorem zyh {t : TypeId} {x m : Operand} {lo hi : Option Operand} : z1f P own ops (⟨dst, .slice t x lo hi (some m), ty, pos, aft, none⟩ :: rest) K st = z3x (z4b P t (st.ev x) (lo.map st.ev) (hi.map st.ev) (st.ev m)) (z1f P own ops) rest K st dst := by
 show (match opR P own ⟨dst, .slice t x lo hi (some m), ty, pos, aft, none⟩ st with | some (d, H, nx) => z1f P own ops rest K ({ st with H := H, nx := nx }.put dst d) | none => False) = _
 have h : opR P own ⟨dst, .slice t x lo hi (some m), ty, pos, aft, none⟩ st = st.keep (z4b P t (st.ev x) (lo.map st.ev) (hi.map st.ev) (st.ev m)) := by
  first | rfl | simp only [opR]
 rw [h]; cases (z4b P t (st.ev x) (lo.map st.ev) (hi.map st.ev) (st.ev m)) <;> rfl
@[go_sem] theorem zyi {t : TypeId} {x m : Operand} {lo hi : Option Operand} : z2n P own ops (⟨dst, .slice t x lo hi (some m), ty, pos, aft, none⟩ :: rest) K st = z3x (z4b P t (st.ev x) (lo.map st.ev) (hi.map st.ev) (st.ev m)) (z2n P own ops) rest K st dst := by
 show (match opR P own ⟨dst, .slice t x lo hi (some m), ty, pos, aft, none⟩ st with | some (d, H, nx) => z2n P own ops rest K ({ st with H := H, nx := nx }.put dst d) | none => False) = _
 have h : opR P own ⟨dst, .slice t x lo hi (some m), ty, pos, aft, none⟩ st = st.keep (z4b P t (st.ev x) (lo.map st.ev) (hi.map st.ev) (st.ev m)) := by
  first | rfl | simp only [opR]
 rw [h]; cases (z4b P t (st.ev x) (lo.map st.ev) (hi.map st.ev) (st.ev m)) <;> rfl
@[go_sem] theorem zta {t : TypeId} {x : Operand} {f : Nat} : z1f P own ops (⟨dst, .fieldAddr t x f, ty, pos, aft, none⟩ :: rest) K st = z3x (z2h P t (st.ev x) f) (z1f P own ops) rest K st dst := by
 show (match opR P own ⟨dst, .fieldAddr t x f, ty, pos, aft, none⟩ st with | some (d, H, nx) => z1f P own ops rest K ({ st with H := H, nx := nx }.put dst d) | none => False) = _
 have h : opR P own ⟨dst, .fieldAddr t x f, ty, pos, aft, none⟩ st = st.keep (z2h P t (st.ev x) f) := by
  first | rfl | simp only [opR]
 rw [h]; cases (z2h P t (st.ev x) f) <;> rfl
@[go_sem] theorem ztb {t : TypeId} {x : Operand} {f : Nat} : z2n P own ops (⟨dst, .fieldAddr t x f, ty, pos, aft, none⟩ :: rest) K st = z3x (z2h P t (st.ev x) f) (z2n P own ops) rest K st dst := by
 show (match opR P own ⟨dst, .fieldAddr t x f, ty, pos, aft, none⟩ st with | some (d, H, nx) => z2n P own ops rest K ({ st with H := H, nx := nx }.put dst d) | none => False) = _
 have h : opR P own ⟨dst, .fieldAddr t x f, ty, pos, aft, none⟩ st = st.keep (z2h P t (st.ev x) f) := by
  first | rfl | simp only [opR]
 rw [h]; cases (z2h P t (st.ev x) f) <;> rfl
@[go_sem] theorem ztc {t : TypeId} {x i : Operand} : z1f P own ops (⟨dst, .indexAddr t x i, ty, pos, aft, none⟩ :: rest) K st = z3x (z0f P (hmG own dst st.H) t (st.ev x) (st.ev i)) (z1f P own ops) rest K st dst := by
 show (match opR P own ⟨dst, .indexAddr t x i, ty, pos, aft, none⟩ st with | some (d, H, nx) => z1f P own ops rest K ({ st with H := H, nx := nx }.put dst d) | none => False) = _
 have h : opR P own ⟨dst, .indexAddr t x i, ty, pos, aft, none⟩ st = st.keep (z0f P (hmG own dst st.H) t (st.ev x) (st.ev i)) := by
  first | rfl | simp only [opR]
 rw [h]; cases (z0f P (hmG own dst st.H) t (st.ev x) (st.ev i)) <;> rfl
@[go_sem] theorem ztd {t : TypeId} {x i : Operand} : z2n P own ops (⟨dst, .indexAddr t x i, ty, pos, aft, none⟩ :: rest) K st = z8l (okT own dst (st.ev x) && okU own dst (st.ev x) && okG own dst st.nx (st.ev x)) (z3x (z0f P (hmG own dst st.H) t (st.ev x) (st.ev i)) (z2n P own ops) rest K st dst) := by
 show (match opR P own ⟨dst, .indexAddr t x i, ty, pos, aft, none⟩ st with | some (d, H, nx) => z8l (okT own dst (st.ev x) && okU own dst (st.ev x) && okG own dst st.nx (st.ev x)) (z2n P own ops rest K ({ st with H := H, nx := nx }.put dst d)) | none => False) = _
 have h : opR P own ⟨dst, .indexAddr t x i, ty, pos, aft, none⟩ st = st.keep (z0f P (hmG own dst st.H) t (st.ev x) (st.ev i)) := by
  first | rfl | simp only [opR]
 rw [h]; cases (z0f P (hmG own dst st.H) t (st.ev x) (st.ev i)) <;> first | exact (z6c _).symm | rfl
@[go_sem] theorem z002 {t : TypeId} {x i : Operand} : z1f P own ops (⟨dst, .index t x i, ty, pos, aft, none⟩ :: rest) K st = z3x (zcm P t (st.ev x) (st.ev i)) (z1f P own ops) rest K st dst := by
 show (match opR P own ⟨dst, .index t x i, ty, pos, aft, none⟩ st with | some (d, H, nx) => z1f P own ops rest K ({ st with H := H, nx := nx }.put dst d) | none => False) = _
 have h : opR P own ⟨dst, .index t x i, ty, pos, aft, none⟩ st = st.keep (zcm P t (st.ev x) (st.ev i)) := by
  first | rfl | simp only [opR]
 rw [h]; cases (zcm P t (st.ev x) (st.ev i)) <;> rfl
@[go_sem] theorem zwn {x : Operand} {i : Nat} : z1f P own ops (⟨dst, .extract x i, ty, pos, aft, none⟩ :: rest) K st = z3x (zac (st.ev x) i) (z1f P own ops) rest K st dst := by
 show (match opR P own ⟨dst, .extract x i, ty, pos, aft, none⟩ st with | some (d, H, nx) => z1f P own ops rest K ({ st with H := H, nx := nx }.put dst d) | none => False) = _
 have h : opR P own ⟨dst, .extract x i, ty, pos, aft, none⟩ st = st.keep (zac (st.ev x) i) := by
  simp only [opR, zac]; generalize st.ev x = v; cases v <;> rfl
 rw [h]; cases (zac (st.ev x) i) <;> rfl
@[go_sem] theorem awpL_len {x : Operand} {t : TypeId} : z1f P own ops (⟨dst, .call ⟨.builtin .len, #[x], #[t]⟩, ty, pos, aft, none⟩ :: rest) K st = z3x (zmx P (hmG own dst st.H) t (st.ev x)) (z1f P own ops) rest K st dst := by
 show (match opR P own ⟨dst, .call ⟨.builtin .len, #[x], #[t]⟩, ty, pos, aft, none⟩ st with | some (d, H, nx) => z1f P own ops rest K ({ st with H := H, nx := nx }.put dst d) | none => False) = _
 have h : opR P own ⟨dst, .call ⟨.builtin .len, #[x], #[t]⟩, ty, pos, aft, none⟩ st = st.keep (zmx P (hmG own dst st.H) t (st.ev x)) := by
  first | rfl | simp only [opR]
 rw [h]; cases (zmx P (hmG own dst st.H) t (st.ev x)) <;> rfl
@[go_sem] theorem awpD_len {x : Operand} {t : TypeId} : z2n P own ops (⟨dst, .call ⟨.builtin .len, #[x], #[t]⟩, ty, pos, aft, none⟩ :: rest) K st = z3x (zmx P (hmG own dst st.H) t (st.ev x)) (z2n P own ops) rest K st dst := by
 show (match opR P own ⟨dst, .call ⟨.builtin .len, #[x], #[t]⟩, ty, pos, aft, none⟩ st with | some (d, H, nx) => z2n P own ops rest K ({ st with H := H, nx := nx }.put dst d) | none => False) = _
 have h : opR P own ⟨dst, .call ⟨.builtin .len, #[x], #[t]⟩, ty, pos, aft, none⟩ st = st.keep (zmx P (hmG own dst st.H) t (st.ev x)) := by
  first | rfl | simp only [opR]
 rw [h]; cases (zmx P (hmG own dst st.H) t (st.ev x)) <;> rfl
@[go_sem] theorem awpL_max {x y : Operand} {tys : Array TypeId} : z1f P own ops (⟨dst, .call ⟨.builtin .max, #[x, y], tys⟩, ty, pos, aft, none⟩ :: rest) K st = z3x (zt3 (st.ev x) (st.ev y)) (z1f P own ops) rest K st dst := by
 show (match opR P own ⟨dst, .call ⟨.builtin .max, #[x, y], tys⟩, ty, pos, aft, none⟩ st with | some (d, H, nx) => z1f P own ops rest K ({ st with H := H, nx := nx }.put dst d) | none => False) = _
 have h : opR P own ⟨dst, .call ⟨.builtin .max, #[x, y], tys⟩, ty, pos, aft, none⟩ st = st.keep (zt3 (st.ev x) (st.ev y)) := by
  first | rfl | simp only [opR]
 rw [h]; cases (zt3 (st.ev x) (st.ev y)) <;> rfl
@[go_sem] theorem awpD_max {x y : Operand} {tys : Array TypeId} : z2n P own ops (⟨dst, .call ⟨.builtin .max, #[x, y], tys⟩, ty, pos, aft, none⟩ :: rest) K st = z3x (zt3 (st.ev x) (st.ev y)) (z2n P own ops) rest K st dst := by
 show (match opR P own ⟨dst, .call ⟨.builtin .max, #[x, y], tys⟩, ty, pos, aft, none⟩ st with | some (d, H, nx) => z2n P own ops rest K ({ st with H := H, nx := nx }.put dst d) | none => False) = _
 have h : opR P own ⟨dst, .call ⟨.builtin .max, #[x, y], tys⟩, ty, pos, aft, none⟩ st = st.keep (zt3 (st.ev x) (st.ev y)) := by
  first | rfl | simp only [opR]
 rw [h]; cases (zt3 (st.ev x) (st.ev y)) <;> rfl
@[go_sem] theorem zyj {x y : Operand} {t : TypeId} : z1f P own ops (⟨dst, .call ⟨.builtin .append, #[x, y], #[t, t]⟩, ty, pos, aft, none⟩ :: rest) K st = ze3 (z6w P own dst st t (st.ev x) (st.ev y)) (z1f P own ops) rest K st dst := by
 show (match opR P own ⟨dst, .call ⟨.builtin .append, #[x, y], #[t, t]⟩, ty, pos, aft, none⟩ st with | some (d, H, nx) => z1f P own ops rest K ({ st with H := H, nx := nx }.put dst d) | none => False) = _
 have h : opR P own ⟨dst, .call ⟨.builtin .append, #[x, y], #[t, t]⟩, ty, pos, aft, none⟩ st = z6w P own dst st t (st.ev x) (st.ev y) := by
  simp only [opR, if_true, z6w, St.keep]
 rw [h]; cases (z6w P own dst st t (st.ev x) (st.ev y)) <;> rfl
@[go_sem] theorem zyk {x y : Operand} {t : TypeId} : z2n P own ops (⟨dst, .call ⟨.builtin .append, #[x, y], #[t, t]⟩, ty, pos, aft, none⟩ :: rest) K st = z8l (okQ own dst st (st.ev x)) (ze3 (z6w P own dst st t (st.ev x) (st.ev y)) (z2n P own ops) rest K st dst) := by
 show (match opR P own ⟨dst, .call ⟨.builtin .append, #[x, y], #[t, t]⟩, ty, pos, aft, none⟩ st with | some (d, H, nx) => z8l (okQ own dst st (st.ev x)) (z2n P own ops rest K ({ st with H := H, nx := nx }.put dst d)) | none => False) = _
 have h : opR P own ⟨dst, .call ⟨.builtin .append, #[x, y], #[t, t]⟩, ty, pos, aft, none⟩ st = z6w P own dst st t (st.ev x) (st.ev y) := by
  simp only [opR, if_true, z6w, St.keep]
 rw [h]; cases (z6w P own dst st t (st.ev x) (st.ev y)) <;> first | exact (z6c _).symm | rfl
def ze5 (P : Program) (f : D) (args : List D) (g : List Oper -> (St -> Prop) -> St -> Prop) (rest : List Oper) (K : St -> Prop) (st : St) (dst : Option Nat) : Prop :=
 match f with | .fn n cap => AC P n (args ++ cap) st.H st.nx fun r H nx => g rest K ((st.withH H nx).put dst r) | .bfn n first => AC P n (first ++ args) st.H st.nx fun r H nx => g rest K ((st.withH H nx).put dst r) | _ => False
def zv6 (P : Program) (own : List Nat) (f : D) (args : List D) (g : List Oper -> (St -> Prop) -> St -> Prop) (rest : List Oper) (K : St -> Prop) (st : St) (dst : Option Nat) : Prop :=
 match f with | .fn n cap => (z06 5000000 own dst = false /\ tcM own dst = none /\ ∃ r, RCF P own dst n (args ++ cap) st r /\ g rest K (st.put dst r)) \/
   (z06 5000000 own dst = true /\ ∃ r, (∀ H nx, RC P n (args ++ cap) H nx r) /\ g rest K (st.put dst r)) \/
   (z06 5000000 own dst = false /\ z06 4000000 own dst = true /\ ∃ d H nx, AC P n (args ++ cap) st.H st.nx (fun r' H' nx' => r' = d /\ H' = H /\ nx' = nx) /\ zux P own dst n (args ++ cap) st.H st.nx st d H nx /\ g rest K ((st.withH H nx).put dst d)) | _ => False
@[go_sem] theorem awpL_call {f : Operand} {args : Array Operand} {tys : Array TypeId} : z1f P own ops (⟨dst, .call ⟨.value f, args, tys⟩, ty, pos, aft, none⟩ :: rest) K st = ze5 P (st.ev f) (args.toList.map st.ev) (z1f P own ops) rest K st dst := rfl
@[go_sem] theorem awpD_call {f : Operand} {args : Array Operand} {tys : Array TypeId} : z2n P own ops (⟨dst, .call ⟨.value f, args, tys⟩, ty, pos, aft, none⟩ :: rest) K st = zv6 P own (st.ev f) (args.toList.map st.ev) (z2n P own ops) rest K st dst := rfl
variable {n : FuncId} {cap args : List D} {g : List Oper -> (St -> Prop) -> St -> Prop}
theorem z2v (h : AC P n (args ++ cap) st.H st.nx fun r H nx => g rest K ((st.withH H nx).put dst r)) : ze5 P (.fn n cap) args g rest K st dst := h
theorem zv7 {first : List D} (h : AC P n (first ++ args) st.H st.nx fun r H nx => g rest K ((st.withH H nx).put dst r)) : ze5 P (.bfn n first) args g rest K st dst := h
theorem zm9 {r : D} {first : List D} (h : RC P n (first ++ args) st.H st.nx r) (O : g rest K (st.put dst r)) : ze5 P (.bfn n first) args g rest K st dst := zv7 (RC.ac h O)
theorem z34 {r : D} (h : RC P n (args ++ cap) st.H st.nx r) (O : g rest K (st.put dst r)) : ze5 P (.fn n cap) args g rest K st dst := z2v (RC.ac h O)
theorem zqs {r : D} (h : PC P n (args ++ cap) r) (O : g rest K (st.put dst r)) : ze5 P (.fn n cap) args g rest K st dst := z2v (RC.ac (h.rc st.H st.nx) O)
theorem zh8 {r : D} (h : RC P n (args ++ cap) st.H st.nx r) (h0 : z06 5000000 own dst = false) (O : g rest K (st.put dst r)) (ht : tcM own dst = none := by rfl) (hF : z06 11000000 own dst = false := by rfl) : zv6 P own (.fn n cap) args g rest K st dst := .inl ⟨h0, ht, r, ⟨h, fun e => by rw [hF] at e; cases e⟩, O⟩
theorem zqt {r : D} (h : PC P n (args ++ cap) r) (O : g rest K (st.put dst r)) (ht : tcM own dst = none := by rfl) : zv6 P own (.fn n cap) args g rest K st dst := by
 cases h0 : z06 5000000 own dst with
 | false => exact .inl ⟨h0, ht, r, ⟨h.rc st.H st.nx, fun _ H nx _ => h.rc H nx⟩, O⟩
 | true => exact .inr (.inl ⟨h0, r, fun H nx => h.rc H nx, O⟩)
def TC (P : Program) (f : FuncId) (ds : List D) (k : Nat) (o o' : HObj) (r : D) : Prop := ∀ H nx, k < nx -> H k = some o -> AC P f ds H nx fun r' H2 n2 => r' = r /\ H2 = z0u H k (some o') /\ n2 = nx
theorem zh9 {k : Nat} {o o' : HObj} {r : D} (h : TC P n (args ++ cap) k o o' r) (hH : st.H k = some o) (hn : k < st.nx) (O : g rest K ((st.withH (z0u st.H k (some o')) st.nx).put dst r)) : ze5 P (.fn n cap) args g rest K st dst :=
 z2v ((h st.H st.nx hn hH).mono fun r' H2 n2 ⟨h1, h2, h3⟩ => by subst h1; subst h2; subst h3; exact O)
end
end Go.Proofs.YtfechgagcgbldaaDoor.Abs
