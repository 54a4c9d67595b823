import Derived.Test.YtppebcifiejplaaGreatDoorWA
import Derived.Orders
/-
 Lemmas of the claim. No condition but those that each names.
-/
set_option linter.unusedSimpArgs false
set_option linter.unusedVariables false
set_option linter.unusedSectionVars false
namespace Go.Proofs.YtppebcifiejplaaGreatDoor.Abs
open Go.RowKit
variable {P : Program}

theorem z4o {s : RS} {w : World} {x : Sem Value} {d : D} (h : RH P s w) (hr : ∃ u, x.run P w = .ok u w /\ rel s d u) : Ran P s w (do pure (.value (<- x))) d s.H s.nx := by
 obtain ⟨u, h1, h2⟩ := hr
 exact zw3 h h1 h2
theorem z4q {s : RS} {w : World} {x : Sem Value} {d : D} {H : HM} {nx : Nat} (hr : ∃ v s' w', x.run P w = .ok v w' /\ Step s w s' w' /\ RH P s' w' /\ s'.H = H /\ s'.nx = nx /\ rel s' d v) :
  Ran P s w (do pure (.value (<- x))) d H nx := by
 obtain ⟨v, s', w', h1, h2, h3, h4, h5, h6⟩ := hr
 exact ⟨v, s', w', .inl (by simp [h1]), h2, h3, h4, h5, h6⟩

theorem zur {s : RS} {w : World} (h : RH P s w) {e : TypeId} {d : D} {v : Value} {cs : List D} (hc : z4k d = some cs) (hv : rel s d v) :
  ∃ u s' w', (Instr.box e v).run P w = .ok u w' /\ Step s w s' w' /\ RH P s' w' /\ s'.H = z1f s.H s.nx (some (.box e cs)) /\ s'.nx = s.nx + 1 /\ rel s' (.ptr s.nx 0) u := by
 obtain ⟨h1, h2⟩ := z92 hv hc
 have hl := z90 h (.pointer (some ⟨w.heap.size, 0, none⟩)) (.box e cs)
 obtain ⟨h3, h4⟩ := z5b h (Grew.alloc w (.cells v.cells e)) (.box e cs) (.pointer (some ⟨w.heap.size, 0, none⟩)) (fun b hb => by simp only [blockOf, Option.some.injEq] at hb; omega)
  ⟨w.heap.size, v.cells.toList, rfl, by simpa using heap_alloc_new w (.cells v.cells e), relAll.later hl _ _ h1, h2⟩
 refine ⟨.pointer (some ⟨w.heap.size, 0, none⟩), _, _, ?_, h3, h4, rfl, rfl, ?_⟩
 ·simp [Instr.box, newVar, newRow]
 ·simp only [rel]
  refine ⟨by simp [RS.add], ⟨_, rfl⟩, fun e' cs' hH => ⟨w.heap.size, by simp [RS.add], rfl⟩⟩

theorem zlu {s : RS} {w : World} (h : RH P s w) {e : TypeId} {zs : List D} (hz : z17 P e = some zs) :
  ∃ u s' w', (Instr.alloc e true (.tuple #[])).run P w = .ok u w' /\ Step s w s' w' /\ RH P s' w' /\ s'.H = z1f s.H s.nx (some (.box e zs)) /\ s'.nx = s.nx + 1 /\ rel s' (.ptr s.nx 0) u := by
 obtain ⟨z, hzr, hzrel, hzo, _⟩ := zac hz
 obtain ⟨h3, h4⟩ := z5b h (Grew.alloc w (.cells z.cells e)) (.box e zs) (.pointer (some ⟨w.heap.size, 0, none⟩)) (fun b hb => by simp only [blockOf, Option.some.injEq] at hb; omega)
  ⟨w.heap.size, z.cells.toList, rfl, by simpa using heap_alloc_new w (.cells z.cells e), hzrel _, hzo⟩
 refine ⟨.pointer (some ⟨w.heap.size, 0, none⟩), _, _, ?_, h3, h4, rfl, rfl, ?_⟩
 ·simp [Instr.alloc, hzr, newVar, newRow]
 ·simp only [rel]
  refine ⟨by simp [RS.add], ⟨_, rfl⟩, fun e' cs' hH => ⟨w.heap.size, by simp [RS.add], rfl⟩⟩

theorem zd0 {s : RS} {w : World} (h : RH P s w) {t e : TypeId} {len : Nat} {vparts : Array (Nat × Value)} {els cs : List D} {vs : List Value} (he : z0x P t = some e) (hsz : z02 P e ≠ 0)
  (hle : len * z02 P e <= 2 ^ 24) (hz : len = 0 \/ z0g P e = true) (hp : vparts.toList = (List.range len).zip vs) (hl : vs.length = len) (hr : relAll s els vs) (hcs : z1h (z02 P e) els = some cs) :
  (∃ u s' w', (Instr.buildSlice t len vparts).run P w = .ok u w' /\ Step s w s' w' /\ RH P s' w' /\ s'.H = z1f s.H s.nx (some (.row e len cs)) /\ s'.nx = s.nx + 1 /\ rel s' (.osl s.nx len) u) /\
  (∃ u s' w', (Instr.buildSlice t len vparts).run P w = .ok u w' /\ Step s w s' w' /\ RH P s' w' /\ s'.H = s.H /\ s'.nx = s.nx /\ rel s' (.rsl true (z02 P e) els) u /\ ∃ a, u = .slice (some a) len len) := by
 obtain ⟨h1, h2, h3⟩ := z8d hcs hr
 have hrun := zfi (w := w) (z2d he) hsz hle hz hp hl h3
 have hfl := z9t h3
 have hmax : len <= maxLen := by
  have : len <= len * z02 P e := Nat.le_mul_of_pos_right _ (Nat.pos_of_ne_zero hsz)
  simp only [maxLen]; omega
 constructor
 ·have hla := z90 h (.slice (some ⟨w.heap.size, 0, none⟩) len len) (.row e len cs)
  obtain ⟨h4, h5⟩ := z5b h (Grew.alloc w (.cells (vs.flatMap (·.cells.toList)).toArray e)) (.row e len cs) (.slice (some ⟨w.heap.size, 0, none⟩) len len)
   (fun b hb => by simp only [blockOf, Option.some.injEq] at hb; omega)
   ⟨vs.flatMap (·.cells.toList), ⟨by rw [hfl, hl], .inr ⟨w.heap.size, len, _, rfl, Nat.zero_le _, heap_alloc_new w _, Nat.le_refl _, hmax, by simp only [List.size_toArray]; rw [hfl, hl], by
    rw [List.take_of_length_le (by rw [List.toList_toArray, hfl, hl]; exact Nat.le_refl _)]⟩⟩, relAll.later hla _ _ h1, h2⟩
  refine ⟨_, _, _, hrun, h4, h5, rfl, rfl, ?_⟩
  simp only [rel]
  refine ⟨by simp [RS.add], ⟨_, _, rfl⟩, fun e' k cs' hH => ?_⟩
  simp only [RS.add, z1f, if_true, Option.some.injEq, HObj.row.injEq] at hH
  obtain ⟨_, rfl, _⟩ := hH
  exact ⟨Nat.le_refl _, fun _ => by simp [RS.add]⟩
 ·obtain ⟨h4, h5⟩ := z91 h (Grew.alloc w (.cells (vs.flatMap (·.cells.toList)).toArray e))
  refine ⟨_, _, _, hrun, h4, h5, rfl, rfl, ?_⟩
  refine ⟨?_, ⟨_, rfl⟩⟩
  simp only [rel]
  have hlen := z06 hr
  refine .inr ⟨⟨w.heap.size, 0, none⟩, len, vs, by rw [<- hlen, hl], by omega, hmax, relAll.later h4.later _ _ hr, fun i v hv => ⟨h3 v (List.mem_of_getElem? hv), fun j c hj => ?_⟩⟩
  rw [z0z, z0z, Nat.zero_add]
  simp only [RS.grow]
  rw [if_neg (by simp), World.cell?_alloc_new]
  simpa using zgx h3 i v j c hv hj

theorem zch (ρ : Operand -> Value) : ∀ (parts : List (Nat × Operand)) (l : List Nat), parts.map (·.1) = l -> parts.map (fun x => (x.1, ρ x.2)) = l.zip (parts.map fun x => ρ x.2)
 | [], l, h => by subst h; rfl
 | p :: ps, l, h => by
  subst h
  simp only [List.map_cons, List.zip_cons_cons, List.cons.injEq, true_and]
  exact zch ρ ps _ rfl

theorem zlv {s : RS} {w : World} {c a b d : D} {vc va vb : Value} (V : zfv c a b = some d) (hc : rel s c vc) (ha : rel s a va) (hb : rel s b vb) :
  ∃ u, (do pure (if <- asBool vc then va else vb) : Sem Value).run P w = .ok u w /\ rel s d u := by
 unfold zfv at V
 split at V
 ·rename_i t
  simp only [rel] at hc; subst hc
  split at V
  ·rename_i x y
   cases V
   simp only [rel] at ha hb; subst ha; subst hb
   cases t
   ·exact ⟨.bool y, by simp [asBool], by simp [rel]⟩
   ·exact ⟨.bool x, by simp [asBool], by simp [rel]⟩
  ·cases V
   cases t
   ·exact ⟨vb, by simp [asBool], by simpa using hb⟩
   ·exact ⟨va, by simp [asBool], by simpa using ha⟩
 ·cases V

theorem zus {w : World} {vc va vb : Value} : (do pure (.value (if <- asBool vc then va else vb)) : Sem Next).run P w =
  ((do pure (if <- asBool vc then va else vb) : Sem Value).run P w).andThen fun v w' => .ok (.value v) w' := by
 cases vc <;> simp [asBool]
theorem zpm {s : RS} {w : World} {ts : Array TypeId} {ty : TypeId} {x y d : D} {vx vy : Value} (V : maxD x y = some d) (hx : rel s x vx) (hy : rel s y vy) : ∃ u, (Builtin.max_ ts ty #[vx, vy]).run P w = .ok u w /\ rel s d u := by
 unfold maxD at V
 split at V <;> first | (cases V; done) | skip
 cases V
 simp only [rel] at hx hy; subst hx; subst hy
 have e : ∀ a b : Int, max a b = if b > a then b else a := fun a b => by split <;> omega
 exact ⟨_, by simp [Builtin.max_, Builtin.max2]; rfl, by simp only [rel, e]⟩
theorem zpn {s : RS} {w : World} {ts : Array TypeId} {ty : TypeId} {x y d : D} {vx vy : Value} (V : minD x y = some d) (hx : rel s x vx) (hy : rel s y vy) : ∃ u, (Builtin.min_ ts ty #[vx, vy]).run P w = .ok u w /\ rel s d u := by
 unfold minD at V
 split at V <;> first | (cases V; done) | skip
 cases V
 simp only [rel] at hx hy; subst hx; subst hy
 have e : ∀ a b : Int, min a b = if b < a then b else a := fun a b => by split <;> omega
 exact ⟨_, by simp [Builtin.min_, Builtin.min2]; rfl, by simp only [rel, e]⟩

theorem zjw {ρ : Operand -> Value} {c : Call} {b : Builtin} (h : c.callee = .builtin b) (ty : TypeId) :
  ∃ consts, (do let d <- resolve ρ c ty; invoke d.target d.args : Sem Next) = builtin b c.argTypes ty consts (c.args.map ρ) := by
 unfold resolve
 rw [h]
 exact ⟨_, rfl⟩

theorem zen : ∀ (is : List Nat) (k n : Nat), z6r is k n = true -> is = List.range' k (n - k)
 | [], k, n, h => by
  simp only [z6r, beq_iff_eq] at h; subst h; simp
 | i :: is, k, n, h => by
  simp only [z6r, Bool.and_eq_true, beq_iff_eq] at h
  obtain ⟨rfl, h⟩ := h
  have ih := zen is (i + 1) n h
  have hlt : i < n := by
   have key : ∀ (l : List Nat) (a b : Nat), z6r l a b = true -> a <= b := by
    intro l
    induction l with
    | nil => intro a b hh; simp only [z6r, beq_iff_eq] at hh; omega
    | cons x l ihl =>
     intro a b hh
     simp only [z6r, Bool.and_eq_true] at hh
     have := ihl _ _ hh.2; omega
   have := key is (i + 1) n h; omega
  have : n - i = (n - (i + 1)) + 1 := by omega
  rw [this, List.range'_succ, <- ih]

set_option maxHeartbeats 2000000 in
theorem zut {own : List Nat} {o : Oper} {st : St} {s : RS} {a : Act} {w : World} (hev : ∀ x, rel s (st.ev x) (a.eval x)) (hH : s.H = st.H) (hnx : s.nx = st.nx) (h : RH P s w)
  {d : D} {H : HM} {nx : Nat} (V : opR P own o st = some (d, H, nx)) : Ran P s w (execOp a.eval o) d H nx := by
 obtain ⟨st_t, st_H, st_nx⟩ := st
 simp only at hH hnx
 subst hH; subst hnx
 generalize hst : (⟨st_t, s.H, s.nx⟩ : St) = st at V hev
 have hstH : st.H = s.H := by rw [<- hst]
 have hstn : st.nx = s.nx := by rw [<- hst]
 have done : ∀ {d0 : Option D}, st.keep d0 = some (d, H, nx) -> d0 = some d /\ H = s.H /\ nx = s.nx := by
  intro d0 h0
  simp only [St.keep, Option.map_eq_some_iff, Prod.mk.injEq] at h0
  obtain ⟨d1, h1, rfl, rfl, rfl⟩ := h0
  exact ⟨h1, hstH, hstn⟩
 unfold opR at V
 unfold execOp
 split at V
 ·-- move
  rename_i x hop
  simp only [Option.some.injEq, Prod.mk.injEq] at V
  obtain ⟨rfl, rfl, rfl⟩ := V
  rw [hop, hstH, hstn]
  exact z7x h rfl (hev x)
 ·-- assign
  rename_i x hop
  rw [hop]
  split at V
  ·rename_i hnil
   have hv := hev x
   rw [hnil] at hv
   split at V
   ·simp only [Option.map_eq_some_iff, Prod.mk.injEq] at V
    obtain ⟨e, he, rfl, rfl, rfl⟩ := V
    simp only [rel] at hv
    obtain ⟨h3, h4⟩ := z5b h (Grew.refl w) (.row e 0 []) (.slice none 0 0) (fun b hb => by cases hb) ⟨[], World.ownsRow_nil w 0 e _, z0q, zhx⟩
    refine ⟨.slice none 0 0, _, w, .inl (by simp [hv]), h3, h4, by simp [RS.add, hstH, hstn], by simp [RS.add, hstn], ?_⟩
    rw [hstn]
    simp only [rel]
    refine ⟨by simp [RS.add], ⟨_, _, rfl⟩, fun e' k cs hH => ?_⟩
    simp only [RS.add, z1f, if_true, Option.some.injEq, HObj.row.injEq] at hH
    obtain ⟨_, rfl, _⟩ := hH
    exact ⟨Nat.le_refl _, fun _ => by simp [RS.add]⟩
   ·simp only [Option.some.injEq, Prod.mk.injEq] at V
    obtain ⟨rfl, rfl, rfl⟩ := V
    rw [hstH, hstn]
    exact z7x h rfl hv
  ·simp only [Option.some.injEq, Prod.mk.injEq] at V
   obtain ⟨rfl, rfl, rfl⟩ := V
   rw [hstH, hstn]
   exact z7x h rfl (hev x)
 ·-- pick
  rename_i c x y hop
  obtain ⟨hd1, rfl, rfl⟩ := done V
  rw [hop]
  obtain ⟨u, h1, h2⟩ := zlv (P := P) (w := w) hd1 (hev c) (hev x) (hev y)
  refine z7x h ?_ h2
  have h3 := zus (P := P) (w := w) (vc := a.eval c) (va := a.eval x) (vb := a.eval y)
  rw [h1] at h3
  exact h3
 ·-- alloc
  rename_i e hop
  rw [hop]
  simp only [Option.map_eq_some_iff, Prod.mk.injEq] at V
  obtain ⟨zs, hz, rfl, rfl, rfl⟩ := V
  rw [hstH, hstn]
  exact z4q (zlu h hz)
 ·-- box
  rename_i e x hop
  rw [hop]
  simp only [Option.map_eq_some_iff, Prod.mk.injEq] at V
  obtain ⟨cs, hc, rfl, rfl, rfl⟩ := V
  rw [hstH, hstn]
  exact z4q (zur h hc (hev x))
 ·-- build
  rename_i t parts hop
  rw [hop]
  obtain ⟨hd1, rfl, rfl⟩ := done V
  refine z4o h (zlb hd1 ?_)
  rw [Array.toList_map]
  exact zdl a.eval st.ev hev parts.toList
 ·-- buildSlice
  rename_i t len parts hop
  rw [hop]
  split at V
  ·rename_i e he
   simp only at V
   split at V
   ·rename_i hc
    obtain ⟨hsz, hpl0, hle, hz⟩ := hc
    have hpl := zen _ _ _ hpl0
    rw [Nat.sub_zero, <- List.range_eq_range'] at hpl
    simp only [Option.bind_eq_some_iff] at V
    obtain ⟨cs, hcs, V⟩ := V
    have hr : relAll s (parts.toList.map fun x => st.ev x.2) (parts.toList.map fun x => a.eval x.2) := by
     have hr := z5q (s := s) (fun x => a.eval x) st.ev hev (parts.toList.map (·.2))
     simp only [List.map_map] at hr
     exact hr
    have hlen : (parts.toList.map (fun x => a.eval x.2)).length = len := by
     have := congrArg List.length hpl
     simpa using this
    have hb := zd0 (P := P) (len := len) (vparts := parts.map fun (i, x) => (i, a.eval x)) (els := parts.toList.map fun x => st.ev x.2) (vs := parts.toList.map fun x => a.eval x.2) h he hsz hle hz
     (by rw [Array.toList_map]; exact zch a.eval parts.toList _ hpl) hlen hr hcs
    split at V
    ·simp only [Option.some.injEq, Prod.mk.injEq] at V
     obtain ⟨rfl, rfl, rfl⟩ := V
     rw [hstH, hstn]
     exact z4q hb.1
    ·obtain ⟨u, s', w', b1, b2, b3, b4, b5, b6, b7⟩ := hb.2
     split at V
     ·rename_i hmk
      simp only [Option.some.injEq, Prod.mk.injEq] at V
      obtain ⟨rfl, rfl, rfl⟩ := V
      rw [hstH, hstn]
      obtain ⟨_, rfl⟩ := hmk
      exact z4q ⟨u, s', w', b1, b2, b3, b4, b5, by simpa only [rel] using b7⟩
     ·simp only [Option.some.injEq, Prod.mk.injEq] at V
      obtain ⟨rfl, rfl, rfl⟩ := V
      rw [hstH, hstn]
      exact z4q ⟨u, s', w', b1, b2, b3, b4, b5, b6⟩
   ·cases V
  ·cases V
 ·-- load
  rename_i t p hop
  rw [hop]
  obtain ⟨hd1, rfl, rfl⟩ := done V
  have hd1 := zre hd1
  rw [hstH] at hd1
  exact z4o h (zgu h hd1 (hev p))
 ·-- store
  rename_i t p v hop
  rw [hop]
  simp only [Option.map_eq_some_iff, Prod.mk.injEq] at V
  obtain ⟨H', V, rfl, rfl, rfl⟩ := V
  rw [hstH] at V
  obtain ⟨s', w', h1, h2, h3, h4, h5⟩ := zmj h V (hev p) (hev v)
  exact ⟨undef, s', w', .inr ⟨by simp [h1], rfl⟩, h2, h3, h4, by rw [h5, hstn], by simp [rel]⟩
 ·-- binOp
  rename_i op t x y ty hop
  rw [hop]
  obtain ⟨hd1, rfl, rfl⟩ := done V
  exact z4o h (zoa hd1 (hev x) (hev y))
 ·-- unOp
  rename_i op t x hop
  rw [hop]
  obtain ⟨hd1, rfl, rfl⟩ := done V
  exact z4o h (zrp hd1 (hev x))
 ·-- convert
  rename_i src dst x hop
  rw [hop]
  obtain ⟨hd1, rfl, rfl⟩ := done V
  unfold convD at hd1
  split at hd1
  ·rename_i ks k k' n hks O hx
   simp only [Option.some.injEq] at hd1
   subst hd1
   have hv := hev x
   rw [hx] at hv
   simp only [rel] at hv
   have hu := zdv O
   refine z4o h ⟨.int k (k.wrap n), ?_, by simp [rel]⟩
   have hsu := zdv hks
   simp only [hv, convert, Sem.run_bind, run_underlying hsu, run_underlying hu, Result.andThen_ok]
   rfl
  ·exact z4q (zle h hd1 (hev x))
 ·-- makeFunc
  rename_i fn first cap hop
  rw [hop]
  split at V
  ·rename_i f
   split at V
   ·rename_i hf
    simp only [Option.some.injEq, Prod.mk.injEq] at V
    obtain ⟨rfl, rfl, rfl⟩ := V
    rw [hstH, hstn]
    have hf0 : first = #[] := Array.eq_empty_of_size_eq_zero hf
    subst hf0
    refine z4o h ⟨.func (.func f) #[] (cap.map a.eval), by simp [Instr.makeFunc], ?_⟩
    simp only [rel]
    exact ⟨(cap.toList.map a.eval), by rw [<- Array.toList_map, Array.toArray_toList], z5q (fun x => a.eval x) st.ev hev cap.toList⟩
   ·split at V
    ·rename_i hf
     simp only [Option.some.injEq, Prod.mk.injEq] at V
     obtain ⟨rfl, rfl, rfl⟩ := V
     rw [hstH, hstn]
     have hf0 : cap = #[] := Array.eq_empty_of_size_eq_zero hf
     subst hf0
     refine z4o h ⟨.func (.func f) (first.map a.eval) #[], by simp [Instr.makeFunc], ?_⟩
     simp only [rel]
     exact ⟨(first.toList.map a.eval), by rw [<- Array.toList_map, Array.toArray_toList], z5q (fun x => a.eval x) st.ev hev first.toList⟩
    ·cases V
  ·cases V
 ·-- makeMap
  rename_i t hop
  rw [hop]
  simp only [Option.map_eq_some_iff, Prod.mk.injEq] at V
  obtain ⟨kt, _, rfl, rfl, rfl⟩ := V
  rw [hstH, hstn]
  exact z4q (zh1 h t)
 ·-- range
  rename_i t x hop
  rw [hop]
  simp only [Option.map_eq_some_iff, Prod.mk.injEq] at V
  obtain ⟨q, hq, rfl, rfl, rfl⟩ := V
  rw [hstH, hstn]
  exact z4q (zld h hq (hev x))
 ·-- next
  rename_i x b hop
  rw [hop]
  rw [hstH, hstn] at V
  exact z4q (zof h V (hev x))
 ·-- lookup
  rename_i t x k ok hop
  rw [hop]
  obtain ⟨hd1, rfl, rfl⟩ := done V
  rw [hstH] at hd1
  exact z4o h (zib h hd1 (hev x) (hev k))
 ·-- mapUpdate
  rename_i t m k x hop
  rw [hop]
  simp only [Option.map_eq_some_iff, Prod.mk.injEq] at V
  obtain ⟨H', V, rfl, rfl, rfl⟩ := V
  rw [hstH] at V
  obtain ⟨s', w', h1, h2, h3, h4, h5⟩ := zcd h V (hev m) (hev k) (hev x)
  exact ⟨undef, s', w', .inr ⟨by simp [h1], rfl⟩, h2, h3, h4, by rw [h5, hstn], by simp [rel]⟩
 ·-- insert
  rename_i t m k x hop
  rw [hop]
  simp only [Option.map_eq_some_iff, Prod.mk.injEq] at V
  obtain ⟨H', V, rfl, rfl, rfl⟩ := V
  rw [hstH] at V
  obtain ⟨s', w', h1, h2, h3, h4, h5⟩ := zcd h V (hev m) (hev k) (hev x)
  exact ⟨undef, s', w', .inr ⟨by simp [h1], rfl⟩, h2, h3, h4, by rw [h5, hstn], by simp [rel]⟩
 ·-- makeSlice
  rename_i t l c hop
  rw [hop]
  split at V
  ·rename_i e k l' k' c' he hl hc
   split at V
   ·rename_i hcond
    obtain ⟨rfl, h0, hb, h63, hpos⟩ := hcond
    simp only [Option.map_eq_some_iff, Prod.mk.injEq] at V
    obtain ⟨zs, hz, rfl, rfl, rfl⟩ := V
    have hvl := hev l
    have hvc := hev c
    rw [hl] at hvl
    rw [hc] at hvc
    simp only [rel] at hvl hvc
    rw [hstH, hstn]
    simp only [hvl, hvc]
    exact z4q (zob h he hz h0 hb h63 hpos)
   ·cases V
  ·cases V
 ·-- slice
  rename_i t x lo hi mx hop
  rw [hop]
  split at V
  ·obtain ⟨hd1, rfl, rfl⟩ := done V
   refine z4o h (zmm hd1 (hev x) ?_ ?_ ?_ ?_)
   ·intro d hdd
    cases lo with
    | none => cases hdd
    | some y => simp only [Option.map_some, Option.some.injEq] at hdd; subst hdd; exact ⟨_, rfl, hev y⟩
   ·intro hn; cases lo <;> first | rfl | cases hn
   ·intro d hdd
    cases hi with
    | none => cases hdd
    | some y => simp only [Option.map_some, Option.some.injEq] at hdd; subst hdd; exact ⟨_, rfl, hev y⟩
   ·intro hn; cases hi <;> first | rfl | cases hn
  ·rename_i m
   obtain ⟨hd1, rfl, rfl⟩ := done V
   refine z4o h (zl3 hd1 (hev x) ?_ ?_ (hev m))
   ·intro hn; cases lo <;> first | rfl | cases hn
   ·intro d hdd
    cases hi with
    | none => cases hdd
    | some y => simp only [Option.map_some, Option.some.injEq] at hdd; subst hdd; exact ⟨_, rfl, hev y⟩
 ·-- fieldAddr
  rename_i t x f hop
  rw [hop]
  obtain ⟨hd1, rfl, rfl⟩ := done V
  exact z4o h (zfb h hd1 (hev x))
 ·-- field
  rename_i t x f hop
  rw [hop]
  split at V
  ·rename_i o' ft ds hf hx
   obtain ⟨hd1, rfl, rfl⟩ := done V
   have hv := hev x
   rw [hx] at hv
   exact z4o h (zml hf hd1 hv)
  ·cases V
 ·-- indexAddr
  rename_i t x i hop
  rw [hop]
  obtain ⟨hd1, rfl, rfl⟩ := done V
  rw [hstH] at hd1
  have hd1 := zf5 hd1
  exact z4o h (zfe h hd1 (hev x) (hev i))
 ·-- index
  rename_i t x i hop
  rw [hop]
  obtain ⟨hd1, rfl, rfl⟩ := done V
  exact z4o h (zmk hd1 (hev x) (hev i))
 ·-- extract
  rename_i x i hop
  rw [hop]
  split at V
  ·rename_i ds hx
   obtain ⟨hd1, rfl, rfl⟩ := done V
   have hv := hev x
   rw [hx] at hv
   simp only [rel] at hv
   obtain ⟨vs, hvs, hr⟩ := hv
   obtain ⟨u, hu, hru⟩ := z29 hr _ _ hd1
   exact z4o h ⟨u, by simp [Instr.extract, hvs, hu], hru⟩
  ·cases V
 ·-- nilCheck
  rename_i x hop
  rw [hop]
  split at V
  ·rename_i d' hx
   simp only [Option.some.injEq, Prod.mk.injEq] at V
   obtain ⟨rfl, rfl, rfl⟩ := V
   have hv := hev x
   rw [hx] at hv
   have hv' := hv
   simp only [rel] at hv'
   obtain ⟨ad, u, hvu, _⟩ := hv'
   rw [hstH, hstn]
   refine z7x h ?_ hv
   simp [hvu]
  ·rename_i id off hx
   simp only [Option.some.injEq, Prod.mk.injEq] at V
   obtain ⟨rfl, rfl, rfl⟩ := V
   have hv := hev x
   rw [hx] at hv
   have hv' := hv
   simp only [rel] at hv'
   obtain ⟨_, ⟨ad, hvu⟩, _⟩ := hv'
   rw [hstH, hstn]
   refine z7x h ?_ hv
   simp [hvu]
  ·cases V
 ·-- call
  rename_i c hop
  rw [hop]
  split at V
  ·rename_i b hcal
   obtain ⟨consts, hcb⟩ := zjw (ρ := a.eval) hcal o.type
   simp only [hcb]
   split at V
   ·rename_i x t hargs htys
    obtain ⟨hd1, rfl, rfl⟩ := done V
    rw [hstH] at hd1
    have hd1 := zw1 hd1
    have ha : c.args = #[x] := by rw [<- Array.toArray_toList (xs := c.args), hargs]
    have ht : c.argTypes = #[t] := by rw [<- Array.toArray_toList (xs := c.argTypes), htys]
    rw [ha, ht]
    have hm : Array.map a.eval #[x] = #[a.eval x] := by simp
    rw [hm]
    exact z4o h (zo9 h hd1 (hev x))
   ·rename_i tys x y hargs
    obtain ⟨hd1, rfl, rfl⟩ := done V
    have ha : c.args = #[x, y] := by rw [<- Array.toArray_toList (xs := c.args), hargs]
    rw [ha]
    have hm : Array.map a.eval #[x, y] = #[a.eval x, a.eval y] := by simp
    rw [hm]
    exact z4o h (zpm hd1 (hev x) (hev y))
   ·rename_i tys x y hargs
    obtain ⟨hd1, rfl, rfl⟩ := done V
    have ha : c.args = #[x, y] := by rw [<- Array.toArray_toList (xs := c.args), hargs]
    rw [ha]
    have hm : Array.map a.eval #[x, y] = #[a.eval x, a.eval y] := by simp
    rw [hm]
    exact z4o h (zpn hd1 (hev x) (hev y))
   ·rename_i x y t u hargs htys
    split at V
    ·rename_i htu
     subst htu
     rw [hstH, hstn] at V
     have ha : c.args = #[x, y] := by rw [<- Array.toArray_toList (xs := c.args), hargs]
     have ht : c.argTypes = #[t, t] := by rw [<- Array.toArray_toList (xs := c.argTypes), htys]
     rw [ha, ht]
     have hm : Array.map a.eval #[x, y] = #[a.eval x, a.eval y] := by simp
     rw [hm]
     split at V
     ·obtain ⟨hd1, rfl, rfl⟩ := done V
      exact z4q (zh0 (ty := o.type) h hd1 (hev x) (hev y))
     ·split at V
      ·simp only [Option.bind_eq_some_iff] at V
       obtain ⟨⟨d1, H1, nx1⟩, hd1, hd2⟩ := V
       obtain ⟨v, s1, w1, a1, a2, a3, a4, a5, a6⟩ := zc9 (ty := o.type) h hd1 (hev x) (hev y)
       obtain ⟨s2, c1, c2, c3, c4, c5, _⟩ := z9u a3 a4 a5 a6 hd2
       exact z4q ⟨v, s2, w1, a1, a2.trans c1, c2, c3, c4, c5⟩
      ·exact z4q (zc9 h V (hev x) (hev y))
    ·cases V
   ·cases V
  ·cases V
 ·cases V

end Go.Proofs.YtppebcifiejplaaGreatDoor.Abs
namespace Go.Proofs.YtppebcifiejplaaGreatDoor.Abs
open Go.RowKit
variable {P : Program}

def znq (P : Program) (f : FuncId) : Prop := ∃ fn, P.funcs[f]? = some fn /\ (fn.name == "runtime.NumGoroutine") = false /\ fn.body.isNone = false

def AC (P : Program) (f : FuncId) (ds : List D) (H : HM) (nx : Nat) (K : D -> HM -> Nat -> Prop) : Prop :=
 znq P f /\ ∀ (s : RS) (w : World) (vs : List Value), s.H = H -> s.nx = nx -> RH P s w -> relAll s ds vs ->
  Calls P f vs.toArray w fun e w' => ∃ v r s', e = .returned v /\ K r s'.H s'.nx /\ Step s w s' w' /\ RH P s' w' /\ rel s' r v
theorem AC.mono {f : FuncId} {ds : List D} {H : HM} {nx : Nat} {K K' : D -> HM -> Nat -> Prop} (h : AC P f ds H nx K) (O : ∀ r H nx, K r H nx -> K' r H nx) : AC P f ds H nx K' :=
 ⟨h.1, fun s w vs h1 h2 h3 h4 => (h.2 s w vs h1 h2 h3 h4).mono fun _ _ ⟨v, r, s', he, hr, rest⟩ => ⟨v, r, s', he, O _ _ _ hr, rest⟩⟩
def RC (P : Program) (f : FuncId) (ds : List D) (H : HM) (nx : Nat) (r : D) : Prop := AC P f ds H nx fun r' H' nx' => r' = r /\ H' = H /\ nx' = nx

structure Fr (P : Program) (N : Nat) (st : St) (s : RS) (a : Act) (w : World) : Prop where
 H : s.H = st.H
 nx : s.nx = st.nx
 size : a.tmps.size = N
 defers : a.defers = []
 tmps : ∀ i, rel s (st.t i) (a.tmps.getD i undef)
 heap : RH P s w

theorem Fr.ev {N : Nat} {st : St} {s : RS} {a : Act} {w : World} (h : Fr P N st s a w) : ∀ x, rel s (st.ev x) (a.eval x)
 | .tmp t => h.tmps t
 | .const v => zl0 s v
 | .global g => h.heap.glob g
 | .func f => by
  simp only [St.ev, Act.eval, rel]
  exact ⟨[], rfl, z0q⟩

def za4 (N : Nat) (o : Oper) : Bool :=
 match o.dst with
 | some i => decide (i < N)
 | none => true

theorem Fr.put {N : Nat} {st : St} {s s' : RS} {a : Act} {w w' : World} (h : Fr P N st s a w) (hl : Later s s') (hr : RH P s' w') {o : Oper} (ho : za4 N o = true) {d : D} {v : Value} (V : rel s' d v) {H : HM} {nx : Nat}
  (hH : s'.H = H) (hnx : s'.nx = nx) : Fr P N ({ st with H := H, nx := nx }.put o.dst d) s' (a.put o.dst v) w' := by
 cases hdst : o.dst with
 | none => exact ⟨hH, hnx, h.size, h.defers, fun i => rel.later hl _ _ (h.tmps i), hr⟩
 | some i =>
  simp only [za4, hdst, decide_eq_true_eq] at ho
  refine ⟨hH, hnx, by simp [Act.put, h.size], h.defers, fun j => ?_, hr⟩
  simp only [St.put, zr9, Act.put]
  by_cases hj : j = i
  ·subst hj
   have hlt : j < a.tmps.size := by rw [h.size]; exact ho
   simpa [Array.getD, hlt] using V
  ·rw [if_neg hj]
   have : (a.tmps.setIfInBounds i v).getD j undef = a.tmps.getD j undef := by
    simp only [Array.getD_eq_getD_getElem?]
    rw [Array.getElem?_setIfInBounds_ne (fun e => hj e.symm)]
   rw [this]
   exact rel.later hl _ _ (h.tmps j)
theorem Fr.put0 {N : Nat} {st : St} {s : RS} {a : Act} {w : World} (h : Fr P N st s a w) {o : Oper} (ho : za4 N o = true) {d : D} {v : Value} (V : rel s d v) : Fr P N (st.put o.dst d) s (a.put o.dst v) w := by
 have := h.put (Step.refl s w).later h.heap ho V h.H h.nx
 exact this

theorem zjx {s : RS} : rel s (.tup []) undef := by simp only [rel]; exact ⟨[], rfl, z0q⟩
def z84 (ops : Array Oper) (st : St) (o : Oper) : Option Bool :=
 match o.guard with
 | none => some true
 | some (j, want) => match (ops[j]?).bind (·.dst) with
  | some i => match st.t i with
   | .bool b => some (b == want)
   | .tup _ => some false
   | _ => none
  | none => none

theorem z7p {N : Nat} {st : St} {s : RS} {a : Act} {w : World} (h : Fr P N st s a w) {ops : Array Oper} {o : Oper} {g : Bool} (hg : z84 ops st o = some g) : Region.wanted o (yielded ops a.tmps) = g := by
 unfold z84 at hg
 unfold Region.wanted
 cases ho : o.guard with
 | none => rw [ho] at hg; simpa using hg
 | some jw =>
  obtain ⟨j, want⟩ := jw
  rw [ho] at hg
  simp only at hg ⊢
  cases V : (ops[j]?).bind (·.dst) with
  | none => rw [V] at hg; cases hg
  | some i =>
   rw [V] at hg
   simp only at hg
   have ht := h.tmps i
   split at hg
   ·rename_i b hb
    cases hg
    rw [hb] at ht
    simp only [rel] at ht
    have hi : a.tmps[i]? = some (.bool b) := by
     simp only [Array.getD_eq_getD_getElem?] at ht
     cases hx : a.tmps[i]? with
     | none => rw [hx] at ht; simp [undef] at ht
     | some x => rw [hx] at ht; simp at ht; rw [ht]
    simp only [yielded, V, Option.bind_some, hi]
    cases b <;> cases want <;> rfl
   ·rename_i ds hb
    cases hg
    rw [hb] at ht
    simp only [rel] at ht
    obtain ⟨vs, hv, _⟩ := ht
    have hy : yielded ops a.tmps j = none := by
     simp only [yielded, V, Option.bind_some]
     cases hx : a.tmps[i]? with
     | none => rfl
     | some x =>
      simp only [Array.getD_eq_getD_getElem?, hx, Option.getD_some] at hv
      subst hv; rfl
    rw [hy]; cases want <;> rfl
   ·cases hg

def opW (P : Program) (own : List Nat) (o : Oper) (st : St) (K : St -> Prop) : Prop :=
 match o.op with
 | .call { callee := .value f, args := args, argTypes := _ } =>
  match st.ev f with
  | .fn g cap => AC P g (args.toList.map st.ev ++ cap) st.H st.nx fun r H nx => K ({ st with H := H, nx := nx }.put o.dst r)
  | .bfn g first => AC P g (first ++ args.toList.map st.ev) st.H st.nx fun r H nx => K ({ st with H := H, nx := nx }.put o.dst r)
  | _ => False
 | _ => match opR P own o st with
  | some (d, H, nx) => K ({ st with H := H, nx := nx }.put o.dst d)
  | none => False

theorem zci {f : FuncId} (h : znq P f) (args : Array Value) (w : World) : (callFunc f args).run P w = .ok (.enter f args) w := by
 obtain ⟨fn, h1, h2, h3⟩ := h
 simp only [callFunc, Sem.run_bind, run_program, Result.andThen_ok, h1, h2, h3, Bool.false_eq_true, if_false, Sem.run_pure]

theorem zge {s : RS} {ds es : List D} {vs us : List Value} (h : relAll s ds vs) (h' : relAll s es us) : relAll s (ds ++ es) (vs ++ us) := z1n h h'

theorem zjy {N : Nat} {own : List Nat} {o : Oper} {st : St} {s : RS} {a : Act} {w : World} {K : St -> Prop} {K' : Act -> World -> Prop} {Q : Exit -> Act -> World -> Prop}
  (h : Fr P N st s a w) (ho : za4 N o = true) (hw : opW P own o st K)
  (O : ∀ st' s' a' w', K st' -> Fr P N st' s' a' w' -> Step s w s' w' -> K' a' w') : o.wp P a w K' Q := by
 unfold opW at hw
 split at hw
 ·rename_i f args tys hop
  split at hw
  ·rename_i g cap hf
   have hv := h.ev f
   rw [hf] at hv
   simp only [rel] at hv
   obtain ⟨cvs, hfv, hcr⟩ := hv
   have hargs := z5q (s := s) (fun x => a.eval x) st.ev h.ev args.toList
   have hc := hw.2 s w (args.toList.map (fun x => a.eval x) ++ cvs) h.H h.nx h.heap (zge hargs hcr)
   unfold Oper.wp
   have hrun : (execOp a.eval o).run P w = .ok (.enter g (args.toList.map (fun x => a.eval x) ++ cvs).toArray) w := by
    unfold execOp
    rw [hop]
    simp only [resolve, hfv, Deferred.ofValue, Sem.run_bind, Sem.run_pure, Result.andThen_ok, invoke]
    rw [zci hw.1]
    congr 2
    apply Array.ext'
    simp
   rw [hrun, Oper.upon_enter]
   refine hc.mono fun e w' ⟨v, r, s', he, J, hstep, hRH, hr⟩ => ?_
   subst he
   exact O _ s' _ w' J (h.put hstep.later hRH ho hr rfl rfl) hstep
  ·rename_i g first hf
   have hv := h.ev f
   rw [hf] at hv
   simp only [rel] at hv
   obtain ⟨cvs, hfv, hcr⟩ := hv
   have hargs := z5q (s := s) (fun x => a.eval x) st.ev h.ev args.toList
   have hc := hw.2 s w (cvs ++ args.toList.map (fun x => a.eval x)) h.H h.nx h.heap (zge hcr hargs)
   unfold Oper.wp
   have hrun : (execOp a.eval o).run P w = .ok (.enter g (cvs ++ args.toList.map (fun x => a.eval x)).toArray) w := by
    unfold execOp
    rw [hop]
    simp only [resolve, hfv, Deferred.ofValue, Sem.run_bind, Sem.run_pure, Result.andThen_ok, invoke]
    rw [zci hw.1]
    congr 2
    apply Array.ext'
    simp
   rw [hrun, Oper.upon_enter]
   refine hc.mono fun e w' ⟨v, r, s', he, J, hstep, hRH, hr⟩ => ?_
   subst he
   exact O _ s' _ w' J (h.put hstep.later hRH ho hr rfl rfl) hstep
  ·cases hw
 ·cases hr : opR P own o st with
  | none => rw [hr] at hw; cases hw
  | some x =>
   obtain ⟨d, H, nx⟩ := x
   rw [hr] at hw
   simp only at hw
   obtain ⟨v, s', w', hrun, hstep, hRH, hH, hnx, V⟩ := zut h.ev h.H h.nx h.heap hr
   unfold Oper.wp
   rcases hrun with hrun | ⟨hrun, hu⟩
   ·rw [hrun, Oper.upon_value]
    exact O _ s' _ w' hw (h.put hstep.later hRH ho V hH hnx) hstep
   ·rw [hrun, Oper.upon_skip, <- hu]
    exact O _ s' _ w' hw (h.put hstep.later hRH ho V hH hnx) hstep

def zuu (ops : Array Oper) : List (Option Nat) := ops.toList.map (·.dst)
def zcj (gs : List (Option Nat)) (st : St) (o : Oper) : Option Bool :=
 match o.guard with
 | none => some true
 | some (j, want) => match (gs[j]?).bind id with
  | some i => match st.t i with
   | .bool b => some (b == want)
   | .tup _ => some false
   | _ => none
  | none => none
theorem zjz (ops : Array Oper) (st : St) (o : Oper) : zcj (zuu ops) st o = z84 ops st o := by
 unfold zcj z84 zuu
 have h : ∀ j : Nat, ((ops.toList.map (·.dst))[j]?).bind id = (ops[j]?).bind (·.dst) := by
  intro j
  rw [List.getElem?_map, Array.getElem?_toList]
  cases ops[j]? <;> rfl
 cases o.guard with
 | none => rfl
 | some jw =>
  obtain ⟨j, want⟩ := jw
  simp only [h]
  cases (ops[j]?).bind (·.dst) with
  | none => rfl
  | some i => rfl
def z2b (P : Program) (own : List Nat) (gs : List (Option Nat)) : List Oper -> (St -> Prop) -> St -> Prop
 | [], K, st => K st
 | o :: rest, K, st =>
  match zcj gs st o with
  | some true => opW P own o st (z2b P own gs rest K)
  | some false => z2b P own gs rest K (st.put o.dst (.tup []))
  | none => False

theorem zbx {N : Nat} {own : List Nat} {ops : Array Oper} {K : St -> Prop} {Q : Exit -> Act -> World -> Prop} : ∀ (l : List Oper) (st : St) (s : RS) (a : Act) (w : World),
  (∀ o ∈ l, za4 N o = true) -> z2b P own (zuu ops) l K st -> Fr P N st s a w ->
  (∀ st' s' a' w', K st' -> Fr P N st' s' a' w' -> Step s w s' w' -> Q .normal a' w') -> wpList P ops Q l a w
 | [], st, s, a, w, _, h, hf, O => O st s a w h hf (Step.refl s w)
 | o :: rest, st, s, a, w, hdst, h, hf, O => by
  have ho := hdst o (by simp)
  have hrest : ∀ o' ∈ rest, za4 N o' = true := fun o' h' => hdst o' (List.mem_cons_of_mem _ h')
  simp only [z2b] at h
  unfold wpList
  rw [zjz] at h
  split at h
  ·rename_i hg
   rw [if_pos (z7p hf hg)]
   exact .inl (zjy hf ho h fun st' s' a' w' J hf' hstep =>
    zbx rest st' s' a' w' hrest J hf' fun st2 s2 a2 w2 hK2 hf2 hstep2 => O st2 s2 a2 w2 hK2 hf2 (hstep.trans hstep2))
  ·rename_i hg
   rw [if_neg (by rw [z7p hf hg]; simp)]
   exact zbx rest _ s _ w hrest h (hf.put0 ho zjx) O
  ·cases h

end Go.Proofs.YtppebcifiejplaaGreatDoor.Abs
namespace Go.Proofs.YtppebcifiejplaaGreatDoor.Abs
open Go.RowKit
variable {P : Program}

def cls (own : List Nat) (o : Oper) : Nat :=
 match o.op with
 | .move _ | .pick .. | .build .. | .binOp .. | .unOp .. | .convert .. | .makeFunc .. | .slice .. | .fieldAddr .. | .field .. | .index .. | .extract .. | .nilCheck _ => 0
 | .assign _ => if zfw own o.dst = true then 2 else 0
 | .buildSlice .. => if zfw own o.dst = true then 2 else 0
 | .load .. | .lookup .. => 1
 | .indexAddr .. => if z0h 3000000 own o.dst = true then 0 else 1
 | .call { callee := .value _, .. } => if z0h 5000000 own o.dst = true then 0 else if z0h 4000000 own o.dst = true then 2 else 1
 | .call { callee := .builtin .len, .. } => if z0h 3000000 own o.dst = true then 0 else 1
 | .call { callee := .builtin .append, .. } => if z0h 1000000 own o.dst = true then 1 else 2
 | .call { callee := .builtin .max, .. } => 0
 | .call { callee := .builtin .min, .. } => 0
 | _ => 2

def St.withH (st : St) (H : HM) (nx : Nat) : St := { st with H := H, nx := nx }
theorem z1u (st : St) (H : HM) (nx : Nat) : (st.withH H nx).ev = st.ev := by funext x; cases x <;> rfl

theorem z1b (st : St) (H : HM) (nx : Nat) (d : Option D) : (st.withH H nx).keep d = d.map fun d => (d, H, nx) := rfl
theorem z16 {st : St} {d0 : Option D} {d : D} {H : HM} {nx : Nat} (h : st.keep d0 = some (d, H, nx)) : d0 = some d /\ H = st.H /\ nx = st.nx := by
 simp only [St.keep, Option.map_eq_some_iff, Prod.mk.injEq] at h
 obtain ⟨d1, h1, rfl, rfl, rfl⟩ := h
 exact ⟨h1, rfl, rfl⟩

theorem zhl {own : List Nat} {o : Oper} {st : St} {d : D} {H : HM} {nx : Nat} (hc : cls own o = 0) (h : opR P own o st = some (d, H, nx)) :
  H = st.H /\ nx = st.nx /\ ∀ H2 nx2, opR P own o (st.withH H2 nx2) = some (d, H2, nx2) := by
 unfold cls at hc
 unfold opR at h ⊢
 simp only [z1u]
 split at hc <;> rename_i hop <;> first | (cases hc; done) | (split at hc <;> cases hc; done) | skip
 all_goals simp only [hop] at h ⊢
 ·simp only [Option.some.injEq, Prod.mk.injEq] at h
  obtain ⟨rfl, rfl, rfl⟩ := h
  exact ⟨rfl, rfl, fun _ _ => rfl⟩
 ·obtain ⟨h1, rfl, rfl⟩ := z16 h
  exact ⟨rfl, rfl, fun _ _ => by rw [z1b, h1]; rfl⟩
 ·obtain ⟨h1, rfl, rfl⟩ := z16 h
  exact ⟨rfl, rfl, fun _ _ => by rw [z1b, h1]; rfl⟩
 ·obtain ⟨h1, rfl, rfl⟩ := z16 h
  exact ⟨rfl, rfl, fun _ _ => by rw [z1b, h1]; rfl⟩
 ·obtain ⟨h1, rfl, rfl⟩ := z16 h
  exact ⟨rfl, rfl, fun _ _ => by rw [z1b, h1]; rfl⟩
 ·obtain ⟨h1, rfl, rfl⟩ := z16 h
  exact ⟨rfl, rfl, fun _ _ => by rw [z1b, h1]; rfl⟩
 ·split at h
  ·split at h
   ·rename_i h1
    simp only [Option.some.injEq, Prod.mk.injEq] at h
    obtain ⟨rfl, rfl, rfl⟩ := h
    exact ⟨rfl, rfl, fun _ _ => by simp only [h1, if_true]; rfl⟩
   ·rename_i h1
    split at h
    ·rename_i h2
     simp only [Option.some.injEq, Prod.mk.injEq] at h
     obtain ⟨rfl, rfl, rfl⟩ := h
     exact ⟨rfl, rfl, fun _ _ => by simp only [h1, h2, if_true, if_false]; rfl⟩
    ·cases h
  ·cases h
 ·split at h
  ·obtain ⟨h1, rfl, rfl⟩ := z16 h
   exact ⟨rfl, rfl, fun _ _ => by rw [z1b, h1]; rfl⟩
  ·obtain ⟨h1, rfl, rfl⟩ := z16 h
   exact ⟨rfl, rfl, fun _ _ => by rw [z1b, h1]; rfl⟩
 ·obtain ⟨h1, rfl, rfl⟩ := z16 h
  exact ⟨rfl, rfl, fun _ _ => by rw [z1b, h1]; rfl⟩
 ·split at h
  ·rename_i h2 h3
   obtain ⟨h1, rfl, rfl⟩ := z16 h
   exact ⟨rfl, rfl, fun _ _ => by rw [z1b, h1]; rfl⟩
  ·cases h
 ·obtain ⟨h1, rfl, rfl⟩ := z16 h
  exact ⟨rfl, rfl, fun _ _ => by rw [z1b, h1]; rfl⟩
 ·split at h
  ·rename_i h2
   obtain ⟨h1, rfl, rfl⟩ := z16 h
   exact ⟨rfl, rfl, fun _ _ => by rw [z1b, h1]; rfl⟩
  ·cases h
 ·split at h
  ·rename_i h2
   simp only [Option.some.injEq, Prod.mk.injEq] at h
   obtain ⟨rfl, rfl, rfl⟩ := h
   exact ⟨rfl, rfl, fun _ _ => rfl⟩
  ·rename_i h2
   simp only [Option.some.injEq, Prod.mk.injEq] at h
   obtain ⟨rfl, rfl, rfl⟩ := h
   exact ⟨rfl, rfl, fun _ _ => rfl⟩
  ·cases h
 ·split at hc
  ·cases hc
  ·rename_i hown
   split at h
   ·rename_i hnil
    rw [if_neg hown] at h
    simp only [Option.some.injEq, Prod.mk.injEq] at h
    obtain ⟨rfl, rfl, rfl⟩ := h
    refine ⟨rfl, rfl, fun _ _ => ?_⟩
    simp only [if_neg hown]; rfl
   ·simp only [Option.some.injEq, Prod.mk.injEq] at h
    obtain ⟨rfl, rfl, rfl⟩ := h
    exact ⟨rfl, rfl, fun _ _ => rfl⟩
 ·split at hc
  ·cases hc
  ·rename_i hown
   split at h
   ·split at h
    ·rename_i hcond
     simp only [Option.bind_eq_some_iff] at h
     obtain ⟨cs, hcs, h⟩ := h
     split at h
     ·rename_i hmk
      simp only [Option.some.injEq, Prod.mk.injEq] at h
      obtain ⟨rfl, rfl, rfl⟩ := h
      refine ⟨rfl, rfl, fun _ _ => ?_⟩
      rw [if_pos hcond, hcs]
      simp only [Option.bind_some, if_neg hown, if_pos hmk]; rfl
     ·rename_i hmk
      simp only [Option.some.injEq, Prod.mk.injEq] at h
      obtain ⟨rfl, rfl, rfl⟩ := h
      refine ⟨rfl, rfl, fun _ _ => ?_⟩
      rw [if_pos hcond, hcs]
      simp only [Option.bind_some, if_neg hown, if_neg hmk]; rfl
    ·cases h
   ·cases h
 ·split at hc
  ·rename_i hm
   obtain ⟨h1, rfl, rfl⟩ := z16 h
   refine ⟨rfl, rfl, fun H2 n2 => ?_⟩
   have e : hmG own o.dst (st.withH H2 n2).H = hmG own o.dst st.H := by unfold hmG; rw [if_pos hm, if_pos hm]
   rw [e, z1b, h1]; rfl
  ·cases hc
 ·cases h
 ·split at hc
  ·rename_i hm
   have e : ∀ H2 n2, hmG own o.dst (st.withH H2 n2).H = hmG own o.dst st.H := fun H2 n2 => by unfold hmG; rw [if_pos hm, if_pos hm]
   simp only [e]
   split at h
   all_goals first
    | (simp only [reduceCtorEq] at *; done)
    | (obtain ⟨h1, rfl, rfl⟩ := z16 h; exact ⟨rfl, rfl, fun _ _ => by rw [z1b, h1]; rfl⟩)
  ·cases hc
 ·split at h
  all_goals first
   | (simp only [reduceCtorEq] at *; done)
   | (obtain ⟨h1, rfl, rfl⟩ := z16 h; exact ⟨rfl, rfl, fun _ _ => by rw [z1b, h1]; rfl⟩)
 ·split at h
  all_goals first
   | (simp only [reduceCtorEq] at *; done)
   | (obtain ⟨h1, rfl, rfl⟩ := z16 h; exact ⟨rfl, rfl, fun _ _ => by rw [z1b, h1]; rfl⟩)

theorem zy0 {own : List Nat} {o : Oper} {st : St} {d : D} {H : HM} {nx : Nat} (hc : cls own o <= 1) (h : opR P own o st = some (d, H, nx)) : H = st.H /\ nx = st.nx := by
  by_cases h0 : cls own o = 0
  · exact ⟨(zhl h0 h).1, (zhl h0 h).2.1⟩
  · have h1 : cls own o = 1 := by omega
    unfold cls at h1
    unfold opR at h
    split at h1 <;> rename_i hop <;> first | (cases h1; done) | skip
    all_goals simp only [hop] at h
    · split at h1 <;> cases h1
    · split at h1 <;> cases h1
    · obtain ⟨_, rfl, rfl⟩ := z16 h; exact ⟨rfl, rfl⟩
    · obtain ⟨_, rfl, rfl⟩ := z16 h; exact ⟨rfl, rfl⟩
    · obtain ⟨_, rfl, rfl⟩ := z16 h; exact ⟨rfl, rfl⟩
    · cases h
    · split at h
      all_goals first
        | (simp only [reduceCtorEq] at *; done)
        | (obtain ⟨_, rfl, rfl⟩ := z16 h; exact ⟨rfl, rfl⟩)
    · split at h1
      · rename_i hmk
        split at h
        all_goals first
          | (simp only [reduceCtorEq] at *; done)
          | (split at h
             · first | rw [if_pos hmk] at h | skip
               obtain ⟨_, rfl, rfl⟩ := z16 h
               exact ⟨rfl, rfl⟩
             · cases h)
      · cases h1

theorem z71 {α β : Type} {f g : α -> β} : ∀ (l : List α), (∀ x ∈ l, f x = g x) -> l.map f = l.map g := fun _ h => List.map_congr_left h

theorem zuv {own : List Nat} {o : Oper} {st st' : St} (hev : ∀ x ∈ o.op.operands.toList, st.ev x = st'.ev x) (hH : st.H = st'.H) (hnx : st.nx = st'.nx) : opR P own o st = opR P own o st' := by
 unfold opR
 have O : ∀ d, st.keep d = st'.keep d := fun d => by simp only [St.keep, hH, hnx]
 cases hop : o.op <;> simp only [hop, Op.operands] at hev ⊢
 case move x => rw [hev x (by simp), hH, hnx]
 case assign x => rw [hev x (by simp), hH, hnx]
 case pick c a b => rw [hev c (by simp), hev a (by simp), hev b (by simp), O]
 case alloc e => rw [hH, hnx]
 case box e x => rw [hev x (by simp), hH, hnx]
 case build t parts =>
  have : parts.toList.map (fun x => (x.1, st.ev x.2)) = parts.toList.map (fun x => (x.1, st'.ev x.2)) :=
   z71 _ fun x hx => by rw [hev x.2 (List.mem_map.2 ⟨x, hx, rfl⟩)]
  exact (congrArg (fun l => st.keep (z86 P t l)) this).trans (O _)
 case buildSlice t len parts =>
  have : parts.toList.map (fun x => st.ev x.2) = parts.toList.map (fun x => st'.ev x.2) :=
   z71 _ fun x hx => hev x.2 (List.mem_map.2 ⟨x, hx, rfl⟩)
  simp only [this, hH, hnx]
 case load t p => rw [hev p (by simp), hH, hnx, O]
 case store t p v => rw [hev p (by simp), hev v (by simp), hH, hnx]
 case binOp op t x y u => rw [hev x (by simp), hev y (by simp), O]
 case unOp op t x => rw [hev x (by simp), O]
 case convert s d x => rw [hev x (by simp), O]
 case makeFunc fn first cap =>
  have : cap.toList.map st.ev = cap.toList.map st'.ev := z71 _ fun x hx => hev x (by simp; exact .inr (by simpa using hx))
  have this2 : first.toList.map st.ev = first.toList.map st'.ev := z71 _ fun x hx => hev x (by simp; exact .inl (by simpa using hx))
  simp only [this, this2, hH, hnx]
 case makeMap t r =>
  cases r with
  | none => simp only [hH, hnx]
  | some r => rfl
 case range t x => rw [hev x (by simp), hH, hnx]
 case next x b => rw [hev x (by simp), hH, hnx]
 case lookup t x k ok => rw [hev x (by simp), hev k (by simp), hH, O]
 case mapUpdate t m k x => rw [hev m (by simp), hev k (by simp), hev x (by simp), hH, hnx]
 case insert t m k x => rw [hev m (by simp), hev k (by simp), hev x (by simp), hH, hnx]
 case makeSlice t l c => rw [hev l (by simp), hev c (by simp), hH, hnx]
 case slice t x lo hi mx =>
  have h1 : lo.map st.ev = lo.map st'.ev := by
   cases lo with
   | none => rfl
   | some y => simp only [Option.map_some]; rw [hev y (by simp)]
  have h2 : hi.map st.ev = hi.map st'.ev := by
   cases hi with
   | none => rfl
   | some y => simp only [Option.map_some]; rw [hev y (by simp)]
  cases mx with
  | none => rw [hev x (by simp), h1, h2]; simp only [O]
  | some m =>
   show st.keep (z5a P t (st.ev x) (Option.map st.ev lo) (Option.map st.ev hi) (st.ev m)) = st'.keep (z5a P t (st'.ev x) (Option.map st'.ev lo) (Option.map st'.ev hi) (st'.ev m))
   rw [hev x (by simp), h1, h2, hev m (by simp)]; simp only [O]
 case fieldAddr s x f => rw [hev x (by simp), O]
 case field t x f => rw [hev x (by simp)]; simp only [O]
 case indexAddr t x i => rw [hev x (by simp), hev i (by simp), hH, O]
 case index t x i => rw [hev x (by simp), hev i (by simp), O]
 case extract x i => rw [hev x (by simp)]; simp only [O]
 case nilCheck x => rw [hev x (by simp), hH, hnx]
 case call c =>
  have hargs : ∀ x ∈ c.args.toList, st.ev x = st'.ev x := fun x hx => hev x (by simp [Call.operands]; exact .inr (by simpa using hx))
  split
  ·rename_i b hcal
   split
   ·rename_i x t ha _
    rw [hargs x (by rw [ha]; simp), hH, O]
   ·rename_i x y ha
    rw [hargs x (by rw [ha]; simp), hargs y (by rw [ha]; simp), O]
   ·rename_i x y ha
    rw [hargs x (by rw [ha]; simp), hargs y (by rw [ha]; simp), O]
   ·rename_i x y t u ha _
    rw [hargs x (by rw [ha]; simp), hargs y (by rw [ha]; simp), hH, hnx, O]
   ·rfl
  ·rfl

end Go.Proofs.YtppebcifiejplaaGreatDoor.Abs
namespace Go.Proofs.YtppebcifiejplaaGreatDoor.Abs
open Go.RowKit
variable {P : Program}

def z88 (st : St) (H : HM) (nx : Nat) : Prop := st.nx <= nx /\ ∀ id, (id < st.nx -> ∀ e cs, st.H id = some (.box e cs) -> H id = some (.box e cs)) /\ (id < nx -> ∀ e cs, H id = some (.box e cs) -> id < st.nx /\ st.H id = some (.box e cs))
def zfp (st : St) (H : HM) (nx : Nat) : Prop := st.nx <= nx /\ ∀ id, id < st.nx -> H id = st.H id
def RCF (P : Program) (own : List Nat) (dst : Option Nat) (g : FuncId) (ds : List D) (st : St) (d : D) : Prop :=
 RC P g ds st.H st.nx d /\ (z0h 11000000 own dst = true -> ∀ H nx, zfp st H nx -> RC P g ds H nx d)
def za5 (i : Nat) : List Nat -> Option Nat
 | s :: r :: l => if s = i + 600000 then some r else za5 i (r :: l)
 | _ => none
def zuw : D -> Option Nat
 | .ptr id _ => some id
 | .eptr id _ _ => some id
 | .osl id _ => some id
 | _ => none
def okT (own : List Nat) (dst : Option Nat) (d : D) : Bool :=
 match dst with
 | some i => (match za5 i own with
  | some r => (match zuw d with
   | some id => decide (id + 900000 = r)
   | none => false)
  | none => true)
 | none => true
def okU (own : List Nat) (dst : Option Nat) (d : D) : Bool :=
 if z0h 9000000 own dst = true then (match d with
  | .ptr id _ => decide (z2a own <= id)
  | .osl id _ => decide (z2a own <= id)
  | .rptr _ => true
  | .rsl _ _ _ => true
  | _ => false) else true
def isG (own : List Nat) (dst : Option Nat) : Bool := z0h 12000000 own dst && !z0h 3000000 own dst && !z0h 6000000 own dst && !z0h 9000000 own dst
def okG (own : List Nat) (dst : Option Nat) (nx : Nat) (d : D) : Bool :=
 if isG own dst = true then (match d with
  | .ptr id _ => decide (id < nx)
  | .eptr id _ _ => decide (id < nx)
  | .osl id _ => decide (id < nx)
  | _ => false) else true
def zk0 : Operand -> Option Nat
 | .tmp i => some i
 | _ => none
def okW (own : List Nat) (o : Oper) (st : St) : Bool :=
 match o.op with
 | .buildSlice .. => if z0h 7000000 own o.dst = true /\ zfw own o.dst = true then decide (z2a own <= st.nx) else true
 | .alloc _ => if z0h 7000000 own o.dst = true then decide (z2a own <= st.nx) else true
 | .load _ p => okT own o.dst (st.ev p) && okU own o.dst (st.ev p) && okG own o.dst st.nx (st.ev p)
 | .indexAddr _ x _ => okT own o.dst (st.ev x) && okU own o.dst (st.ev x) && okG own o.dst st.nx (st.ev x)
 | .store _ p _ => okT own (zk0 p) (st.ev p)
 | .call { callee := .builtin .append, args := args, .. } =>
  if z0h 7000000 own o.dst = true then
   (match args.toList with
   | x :: _ => (match st.ev x with
    | .osl id _ => decide (z2a own <= id /\ z2a own <= st.nx)
    | _ => decide (z2a own <= st.nx))
   | [] => false)
  else true
 | _ => true
theorem zux {own : List Nat} {o : Oper} {st st' : St} (hev : ∀ x ∈ o.op.operands.toList, st.ev x = st'.ev x) (hnx : st.nx = st'.nx) : okW own o st = okW own o st' := by
 unfold okW
 cases hop : o.op <;> simp only [hnx]
 ·rename_i t p
  rw [hop] at hev
  rw [hev p (by simp [Op.operands])]
 ·rename_i t p v
  rw [hop] at hev
  rw [hev p (by simp [Op.operands])]
 ·rename_i t x i
  rw [hop] at hev
  rw [hev x (by simp [Op.operands])]
 rename_i c
 obtain ⟨callee, args, tys⟩ := c
 rw [hop] at hev
 simp only [Op.operands, Call.operands] at hev
 cases callee <;> first | rfl | skip
 rename_i b
 cases b <;> first | rfl | skip
 simp only
 split
 ·cases ha : args.toList with
  | nil => rfl
  | cons x l =>
   simp only
   have : st.ev x = st'.ev x := hev x (by
    have hx : x ∈ args := Array.mem_toList_iff.1 (by rw [ha]; simp)
    simpa using hx)
   rw [this]
 ·rfl
theorem z7q {own : List Nat} {o : Oper} {st : St} {H : HM} {nx : Nat} {t : TypeId} {p : Operand} (hop : o.op = .load t p) (hG : isG own o.dst = false := by simp_all [isG]) : okW own o (st.withH H nx) = okW own o st := by
 unfold okW; rw [hop]; simp only [okG, hG, Bool.false_eq_true, if_false]; rfl
theorem zeo {own : List Nat} {o : Oper} {st : St} {H : HM} {nx : Nat} {t : TypeId} {x i : Operand} (hop : o.op = .indexAddr t x i) (hG : isG own o.dst = false) : okW own o (st.withH H nx) = okW own o st := by
 unfold okW; rw [hop]; simp only [okG, hG, Bool.false_eq_true, if_false]; rfl
def tcM (own : List Nat) (dst : Option Nat) : Option Nat := if z0h 4000000 own dst = true then (match dst with | some i => za5 i own | none => none) else none
def zy1 (P : Program) (own : List Nat) (dst : Option Nat) (g : FuncId) (ds : List D) (H0 : HM) (n0 : Nat) (st : St) (d : D) (H : HM) (nx : Nat) : Prop :=
 (tcM own dst = none /\ ((z0h 10000000 own dst = false /\ z88 st H nx) \/ (z0h 10000000 own dst = true /\ zfp st H nx))) \/ ∃ k o', tcM own dst = some (k + 900000) /\ k < z2a own /\ z2a own <= n0 /\ nx = n0 /\ H = z1f H0 k o' /\
  ∀ H' n', z2a own <= n' -> H' k = H0 k -> AC P g ds H' n' (fun r' H2 n2 => r' = d /\ H2 = z1f H' k o' /\ n2 = n')
def z0r (P : Program) (own : List Nat) (ops : Array Oper) (o : Oper) (st : St) (d : D) (H : HM) (nx : Nat) : Prop :=
 (z84 ops st o = some true /\ ((∃ f args tys g cap, o.op = .call { callee := .value f, args := args, argTypes := tys } /\ st.ev f = .fn g cap /\ ((z0h 5000000 own o.dst = false /\ tcM own o.dst = none /\ RCF P own o.dst g (args.toList.map st.ev ++ cap) st d /\ H = st.H /\ nx = st.nx) \/
   (z0h 5000000 own o.dst = true /\ (∀ H nx, RC P g (args.toList.map st.ev ++ cap) H nx d) /\ H = st.H /\ nx = st.nx) \/
   (z0h 5000000 own o.dst = false /\ z0h 4000000 own o.dst = true /\ AC P g (args.toList.map st.ev ++ cap) st.H st.nx (fun r' H' nx' => r' = d /\ H' = H /\ nx' = nx) /\ zy1 P own o.dst g (args.toList.map st.ev ++ cap) st.H st.nx st d H nx))) \/
  (opR P own o st = some (d, H, nx) /\ okW own o st = true))) \/ (z84 ops st o = some false /\ d = .tup [] /\ H = st.H /\ nx = st.nx)
def St.next (st : St) (o : Oper) (d : D) (H : HM) (nx : Nat) : St := (st.withH H nx).put o.dst d

theorem zlw {ops : Array Oper} {o : Oper} {st st' : St} (h : ∀ t ∈ o.looksAt ops, st.t t = st'.t t) : ∀ x ∈ o.op.operands.toList, st.ev x = st'.ev x := by
 intro x hx
 cases x with
 | tmp t =>
  refine h t ?_
  unfold Oper.looksAt
  refine List.mem_append.2 (.inl (List.mem_filterMap.2 ⟨_, hx, rfl⟩))
 | const v => rfl
 | global g => rfl
 | func f => rfl
theorem zfq {ops : Array Oper} {o : Oper} {st st' : St} (h : ∀ t ∈ o.looksAt ops, st.t t = st'.t t) : z84 ops st o = z84 ops st' o := by
 unfold z84
 cases hg : o.guard with
 | none => rfl
 | some jw =>
  obtain ⟨j, want⟩ := jw
  simp only
  cases V : (ops[j]?).bind (·.dst) with
  | none => rfl
  | some i =>
   have := h i (by
    unfold Oper.looksAt
    refine List.mem_append.2 (.inr ?_)
    rw [hg]; simp only [V]; simp)
   simp only [this]

theorem z0j {own : List Nat} {ops : Array Oper} {o : Oper} {st st' : St} {d : D} {H : HM} {nx : Nat} (h : ∀ t ∈ o.looksAt ops, st.t t = st'.t t) (hH : st.H = st'.H) (hnx : st.nx = st'.nx)
  (hs : z0r P own ops o st d H nx) : z0r P own ops o st' d H nx := by
 have hev := zlw h
 unfold z0r at *
 rw [zfq h] at hs
 rcases hs with ⟨hg, hs⟩ | ⟨hg, hs⟩
 ·refine .inl ⟨hg, ?_⟩
  rcases hs with ⟨f, args, tys, g, cap, hop, hf, hcase⟩ | hs
  ·rw [hop] at hev
   simp only [Op.operands, Call.operands] at hev
   have hargs : args.toList.map st.ev = args.toList.map st'.ev := z71 _ fun x hx => hev x (by simp; exact .inr (by simpa using hx))
   refine .inl ⟨f, args, tys, g, cap, hop, by rw [<- hev f (by simp)]; exact hf, ?_⟩
   rcases hcase with ⟨h0, ht, hrc, h1, h2⟩ | ⟨h0, hrc, h1, h2⟩ | ⟨h0, hm, hac, hsb⟩
   ·refine .inl ⟨h0, ht, ?_, by rw [h1, hH], by rw [h2, hnx]⟩
    unfold RCF zfp at hrc ⊢
    rw [<- hargs, <- hH, <- hnx]; exact hrc
   ·exact .inr (.inl ⟨h0, by rw [<- hargs]; exact hrc, by rw [h1, hH], by rw [h2, hnx]⟩)
   ·refine .inr (.inr ⟨h0, hm, by rw [<- hargs, <- hH, <- hnx]; exact hac, ?_⟩)
    unfold zy1 z88 zfp at hsb ⊢
    rw [<- hargs, <- hH, <- hnx]; exact hsb
  ·exact .inr ⟨by rw [<- zuv hev hH hnx]; exact hs.1, by rw [<- zux hev hnx]; exact hs.2⟩
 ·exact .inr ⟨hg, hs.1, by rw [hs.2.1, hH], by rw [hs.2.2, hnx]⟩

theorem zep (ops : Array Oper) (st : St) (o : Oper) (H : HM) (nx : Nat) : z84 ops (st.withH H nx) o = z84 ops st o := rfl

theorem zgf {own : List Nat} {ops : Array Oper} {o : Oper} {st : St} {d : D} {H : HM} {nx : Nat} (hc : cls own o = 0) (hs : z0r P own ops o st d H nx) :
  H = st.H /\ nx = st.nx /\ ∀ H2 nx2, z0r P own ops o (st.withH H2 nx2) d H2 nx2 := by
 unfold z0r at *
 rcases hs with ⟨hg, hs⟩ | ⟨hg, h1, h2, h3⟩
 ·rcases hs with ⟨f, args, tys, g, cap, hop, hf, ⟨h0, _⟩ | ⟨h0, hrc, h1, h2⟩ | ⟨h0, _⟩⟩ | hs
  ·unfold cls at hc; rw [hop] at hc; simp only [h0, Bool.false_eq_true, if_false] at hc; split at hc <;> cases hc
  ·exact ⟨h1, h2, fun H2 nx2 => .inl ⟨hg, .inl ⟨f, args, tys, g, cap, hop, by rw [z1u]; exact hf, .inr (.inl ⟨h0, by rw [z1u]; exact hrc, rfl, rfl⟩)⟩⟩⟩
  ·unfold cls at hc; rw [hop] at hc; simp only [h0, Bool.false_eq_true, if_false] at hc; split at hc <;> cases hc
  ·obtain ⟨h1, h2, h3⟩ := zhl hc hs.1
   refine ⟨h1, h2, fun H2 nx2 => .inl ⟨hg, .inr ⟨h3 H2 nx2, ?_⟩⟩⟩
   unfold cls at hc
   unfold okW
   split
   ·rename_i hop
    simp only [hop] at hc
    rw [if_neg]
    rintro ⟨_, ho⟩
    rw [if_pos ho] at hc; cases hc
   ·rename_i hop; simp only [hop] at hc; cases hc
   ·rename_i hop; simp only [hop] at hc; cases hc
   ·rename_i hop
    simp only [hop] at hc
    have hG : isG own o.dst = false := by
     split at hc
     ·rename_i h; unfold isG; rw [h]; simp
     ·cases hc
    have hok := (zeo (H := H2) (nx := nx2) hop hG).trans hs.2
    unfold okW at hok
    rw [hop] at hok
    exact hok
   ·rename_i hop; simp only [hop] at hc; cases hc
   ·rename_i hop
    simp only [hop] at hc
    split at hc <;> cases hc
   ·rfl
 ·exact ⟨h2, h3, fun H2 nx2 => .inr ⟨hg, h1, rfl, rfl⟩⟩
theorem z2u {own : List Nat} {ops : Array Oper} {o : Oper} {st : St} {d : D} {H : HM} {nx : Nat} (hc : cls own o <= 1) (hs : z0r P own ops o st d H nx) : H = st.H /\ nx = st.nx := by
 unfold z0r at hs
 rcases hs with ⟨hg, hs⟩ | ⟨hg, h1, h2, h3⟩
 ·rcases hs with ⟨f, args, tys, g, cap, hop, _, ⟨_, _, _, h1, h2⟩ | ⟨_, _, h1, h2⟩ | ⟨h0, hm, _⟩⟩ | hs
  ·exact ⟨h1, h2⟩
  ·exact ⟨h1, h2⟩
  ·unfold cls at hc; rw [hop] at hc; simp only [h0, hm, if_true, Bool.false_eq_true, if_false] at hc; omega
  ·exact zy0 hc hs.1
 ·exact ⟨h2, h3⟩

theorem zlx {st : St} {dst : Option Nat} {d : D} {t : Nat} (h : dst ≠ some t) : (st.put dst d).t t = st.t t := by
 cases dst with
 | none => rfl
 | some i => simp only [St.put, zr9]; rw [if_neg (fun e => h (by rw [e]))]
theorem put_H (st : St) (dst : Option Nat) (d : D) : (st.put dst d).H = st.H := by cases dst <;> rfl
theorem zzf (st : St) (dst : Option Nat) (d : D) : (st.put dst d).nx = st.nx := by cases dst <;> rfl
theorem z27 (st : St) (o : Oper) (d : D) (H : HM) (nx : Nat) : (st.next o d H nx).H = H := by unfold St.next; rw [put_H]; rfl
theorem z1g (st : St) (o : Oper) (d : D) (H : HM) (nx : Nat) : (st.next o d H nx).nx = nx := by unfold St.next; rw [zzf]; rfl
theorem z9f {st : St} {o : Oper} {d : D} {H : HM} {nx t : Nat} (h : o.dst ≠ some t) : (st.next o d H nx).t t = st.t t := by unfold St.next; rw [zlx h]; rfl

theorem zk1 {st : St} {x y : Oper} {dx dy : D} {H1 H2 H3 : HM} {n1 n2 n3 : Nat} (h : ∀ d, x.dst = some d -> y.dst ≠ some d) :
  (st.next x dx H1 n1).next y dy H3 n3 = (st.next y dy H2 n2).next x dx H3 n3 := by
 unfold St.next St.withH St.put
 cases hx : x.dst with
 | none => cases hy : y.dst <;> rfl
 | some i =>
  cases hy : y.dst with
  | none => rfl
  | some j =>
   have hij : j ≠ i := fun e => h i hx (by rw [hy, e])
   simp only [St.mk.injEq, and_true]
   funext k
   simp only [zr9]
   by_cases h1 : k = j
   ·subst h1; rw [if_pos rfl, if_neg hij, if_pos rfl]
   ·rw [if_neg h1]
    by_cases h2 : k = i
    ·rw [if_pos h2, if_pos h2]
    ·rw [if_neg h2, if_neg h2, if_neg h1]

def z72 (own : List Nat) (o : Oper) : Bool :=
 match o.op with
 | .load _ _ => z0h 3000000 own o.dst
 | _ => false
def zeq (own : List Nat) (o : Oper) : Bool :=
 match o.op with
 | .call { callee := .value _, .. } => z0h 4000000 own o.dst && (tcM own o.dst).isNone && !z0h 10000000 own o.dst
 | .call { callee := .builtin .append, .. } => true
 | .buildSlice .. => true
 | _ => false
theorem z41 (st : St) : z88 st st.H st.nx := ⟨Nat.le_refl _, fun _ => ⟨fun _ _ _ h => h, fun h _ _ h2 => ⟨h, h2⟩⟩⟩
theorem zuy (st : St) {id0 : Nat} {o o' : HObj} (h0 : st.H id0 = some o) (hb : ∀ e cs, o ≠ .box e cs) (hb' : ∀ e cs, o' ≠ .box e cs) : z88 st (z1f st.H id0 (some o')) st.nx := by
 refine ⟨Nat.le_refl _, fun id => ⟨fun _ e cs h => ?_, fun hlt e cs h => ⟨hlt, ?_⟩⟩⟩
 ·unfold z1f
  by_cases he : id = id0
  ·subst he; rw [h0] at h; cases h; exact (hb _ _ rfl).elim
  ·rw [if_neg he]; exact h
 ·unfold z1f at h
  by_cases he : id = id0
  ·rw [if_pos he] at h; cases h; exact (hb' _ _ rfl).elim
  ·rw [if_neg he] at h; exact h
theorem z8q (st : St) {o' : HObj} (hb' : ∀ e cs, o' ≠ .box e cs) : z88 st (z1f st.H st.nx (some o')) (st.nx + 1) := by
 refine ⟨by omega, fun id => ⟨fun hlt e cs h => ?_, fun hlt e cs h => ?_⟩⟩
 ·unfold z1f; rw [if_neg (by omega)]; exact h
 ·unfold z1f at h
  by_cases he : id = st.nx
  ·rw [if_pos he] at h; cases h; exact (hb' _ _ rfl).elim
  ·rw [if_neg he] at h; exact ⟨by omega, h⟩
theorem zgg (st : St) {H : HM} {nx id0 : Nat} {o : HObj} (h : z88 st H nx) (h0 : H id0 = some o) (hb : ∀ e cs, o ≠ .box e cs) : z88 st (z1f H id0 none) nx := by
 refine ⟨h.1, fun id => ⟨fun hlt e cs h1 => ?_, fun hlt e cs h1 => ?_⟩⟩
 ·have h2 := (h.2 id).1 hlt e cs h1
  unfold z1f
  by_cases he : id = id0
  ·subst he; rw [h0] at h2; cases h2; exact (hb _ _ rfl).elim
  ·rw [if_neg he]; exact h2
 ·unfold z1f at h1
  by_cases he : id = id0
  ·rw [if_pos he] at h1; cases h1
  ·rw [if_neg he] at h1; exact (h.2 id).2 hlt e cs h1
theorem zaz {st : St} {t : TypeId} {x y d : D} {H : HM} {nx : Nat} (h : z63 P st.H st.nx t x y = some (d, H, nx)) : z88 st H nx := by
 unfold z63 at h
 split at h
 ·split at h
  ·simp only [Option.bind_eq_some_iff] at h
   obtain ⟨⟨m, news⟩, _, h⟩ := h
   simp only at h
   split at h
   ·split at h
    ·simp only [Option.some.injEq, Prod.mk.injEq] at h
     obtain ⟨_, rfl, rfl⟩ := h
     exact z8q st (by intro e cs h; cases h)
    ·cases h
   ·split at h
    ·rename_i hid
     split at h
     ·simp only [Option.some.injEq, Prod.mk.injEq] at h
      obtain ⟨_, rfl, rfl⟩ := h
      exact zuy st hid (by intro e cs h; cases h) (by intro e cs h; cases h)
     ·cases h
    ·cases h
   ·split at h
    ·simp only [Option.some.injEq, Prod.mk.injEq] at h
     obtain ⟨_, rfl, rfl⟩ := h
     exact z41 st
    ·split at h
     ·simp only [Option.map_eq_some_iff, Prod.mk.injEq] at h
      obtain ⟨_, _, _, rfl, rfl⟩ := h
      exact z8q st (by intro e cs h; cases h)
     ·cases h
   ·cases h
  ·cases h
 ·cases h
theorem zly {st : St} {d d' : D} {H H' : HM} {nx nx' : Nat} (h0 : z88 st H nx) (h : zc6 P (d, H, nx) = some (d', H', nx')) : z88 st H' nx' := by
 unfold zc6 at h
 split at h
 ·rename_i heq
  cases heq
  split at h
  ·rename_i hid
   split at h
   ·simp only [Option.some.injEq, Prod.mk.injEq] at h
    obtain ⟨_, rfl, rfl⟩ := h
    exact zgg st h0 hid (by intro e cs h; cases h)
   ·cases h
  ·cases h
 ·rename_i heq
  cases heq
  simp only [Option.some.injEq, Prod.mk.injEq] at h
  obtain ⟨_, rfl, rfl⟩ := h
  exact h0
 ·cases h
theorem zpo {own : List Nat} {o : Oper} {st : St} {d : D} {H : HM} {nx : Nat} (O : zeq own o = true) (h : opR P own o st = some (d, H, nx)) : z88 st H nx := by
 unfold zeq at O
 split at O
 ·rename_i hop
  unfold opR at h
  simp only [hop] at h
  cases h
 ·rename_i hop
  unfold opR at h
  simp only [hop] at h
  split at h
  all_goals first
   | (simp only [reduceCtorEq] at *; done)
   | skip
  ·split at h
   ·split at h
    ·obtain ⟨_, rfl, rfl⟩ := z16 h
     exact z41 st
    ·split at h
     ·simp only [Option.bind_eq_some_iff] at h
      obtain ⟨⟨d1, H1, n1⟩, h1, h2⟩ := h
      exact zly (zaz h1) h2
     ·exact zaz h
   ·cases h
 ·rename_i hop
  unfold opR at h
  simp only [hop] at h
  split at h
  ·split at h
   ·simp only [Option.bind_eq_some_iff] at h
    obtain ⟨cs, _, h⟩ := h
    split at h
    ·simp only [Option.some.injEq, Prod.mk.injEq] at h
     obtain ⟨_, rfl, rfl⟩ := h
     exact z8q st (fun e cs h => by cases h)
    ·split at h
     ·simp only [Option.some.injEq, Prod.mk.injEq] at h
      obtain ⟨_, rfl, rfl⟩ := h
      exact z41 st
     ·simp only [Option.some.injEq, Prod.mk.injEq] at h
      obtain ⟨_, rfl, rfl⟩ := h
      exact z41 st
   ·cases h
  ·cases h
 ·cases O
theorem zck {own : List Nat} {ops : Array Oper} {o : Oper} {st : St} {d : D} {H : HM} {nx : Nat} (O : zeq own o = true) (hs : z0r P own ops o st d H nx) : z88 st H nx := by
 unfold z0r at hs
 rcases hs with ⟨hg, hs⟩ | ⟨hg, h1, h2, h3⟩
 ·rcases hs with ⟨f, args, tys, g, cap, hop, _, ⟨_, _, _, h1, h2⟩ | ⟨_, _, h1, h2⟩ | ⟨_, _, _, hsb⟩⟩ | hs
  ·subst h1; subst h2; exact z41 st
  ·subst h1; subst h2; exact z41 st
  ·rcases hsb with ⟨_, ⟨_, hsb⟩ | ⟨hm, _⟩⟩ | ⟨k, o', ht, _⟩
   ·exact hsb
   ·unfold zeq at O
    rw [hop] at O
    simp [hm] at O
   ·unfold zeq at O
    rw [hop] at O
    simp [ht] at O
  ·exact zpo O hs.1
 ·subst h2; subst h3; exact z41 st
theorem zpp {st : St} {H : HM} {nx : Nat} {t : TypeId} {p d : D} (hb : z88 st H nx) : (z9k P st.H st.nx t p = some d -> z9k P H nx t p = some d) /\ (z9k P H nx t p = some d -> z9k P st.H st.nx t p = some d) := by
 cases p <;> first | (constructor <;> intro h <;> exact h) | skip
 rename_i id off
 simp only [z9k, z3p]
 constructor
 ·intro h
  split at h
  ·rename_i hlt
   rw [if_pos (Nat.lt_of_lt_of_le hlt hb.1)]
   split at h
   ·rename_i hid
    rw [(hb.2 id).1 hlt _ _ hid]; exact h
   ·cases h
  ·cases h
 ·intro h
  split at h
  ·rename_i hlt
   split at h
   ·rename_i hid
    obtain ⟨h1, h2⟩ := (hb.2 id).2 hlt _ _ hid
    rw [if_pos h1, h2]; exact h
   ·cases h
  ·cases h
theorem zgh {own : List Nat} {o : Oper} (hl : z72 own o = true) : ∃ t p, o.op = .load t p /\ ∀ st : St, opR P own o st = st.keep (z9k P st.H st.nx t (st.ev p)) := by
 unfold z72 at hl
 split at hl
 ·rename_i t p hop
  refine ⟨t, p, hop, fun st => ?_⟩
  unfold opR
  simp only [hop, zaa, hl, if_true]
 ·cases hl
theorem isG_B {own : List Nat} {o : Oper} (hl : z72 own o = true) : isG own o.dst = false := by
 unfold z72 at hl
 split at hl
 ·unfold isG; rw [hl]; simp
 ·cases hl
theorem z73 {own : List Nat} {o : Oper} (hl : z72 own o = true) : cls own o = 1 := by
 unfold z72 at hl
 split at hl
 ·rename_i hop
  unfold cls; rw [hop]
 ·cases hl
theorem z6h {own : List Nat} {ops : Array Oper} {o : Oper} {st : St} {d : D} {H : HM} {nx : Nat} (hl : z72 own o = true) (hb : z88 st H nx) :
  (z0r P own ops o st d st.H st.nx -> z0r P own ops o (st.withH H nx) d H nx) /\ (z0r P own ops o (st.withH H nx) d H nx -> z0r P own ops o st d st.H st.nx) := by
 obtain ⟨t, p, hop, hop2⟩ := zgh (P := P) hl
 obtain ⟨k1, k2⟩ := zpp (P := P) (t := t) (p := st.ev p) (d := d) hb
 have e1 : opR P own o (st.withH H nx) = (z9k P H nx t (st.ev p)).map fun d => (d, H, nx) := by rw [hop2, z1u]; rfl
 have e2 : opR P own o st = (z9k P st.H st.nx t (st.ev p)).map fun d => (d, st.H, st.nx) := by rw [hop2]; rfl
 constructor
 ·intro hs
  unfold z0r at *
  rcases hs with ⟨hg, hs⟩ | ⟨hg, h1, _, _⟩
  ·refine .inl ⟨hg, .inr ?_⟩
   rcases hs with ⟨f, args, tys, g, cap, hop', _⟩ | hs
   ·rw [hop] at hop'; cases hop'
   ·rw [e2, Option.map_eq_some_iff] at hs
    obtain ⟨⟨d1, h1, h2⟩, hok⟩ := hs
    simp only [Prod.mk.injEq, and_true] at h2
    subst h2
    rw [e1, k1 h1]; exact ⟨rfl, by rw [z7q hop (isG_B hl)]; exact hok⟩
  ·exact .inr ⟨hg, h1, rfl, rfl⟩
 ·intro hs
  unfold z0r at *
  rcases hs with ⟨hg, hs⟩ | ⟨hg, h1, _, _⟩
  ·refine .inl ⟨hg, .inr ?_⟩
   rcases hs with ⟨f, args, tys, g, cap, hop', _⟩ | hs
   ·rw [hop] at hop'; cases hop'
   ·rw [e1, Option.map_eq_some_iff] at hs
    obtain ⟨⟨d1, h1, h2⟩, hok⟩ := hs
    simp only [Prod.mk.injEq, and_true] at h2
    subst h2
    rw [e2, k2 h1]; exact ⟨rfl, by rw [z7q hop (isG_B hl)] at hok; exact hok⟩
  ·exact .inr ⟨hg, h1, rfl, rfl⟩
def newB (own : List Nat) (o : Oper) : Bool :=
 match o.op with
 | .alloc _ => true
 | .call { callee := .value _, .. } => z0h 4000000 own o.dst && (tcM own o.dst).isNone && z0h 10000000 own o.dst
 | _ => false
theorem zpq {own : List Nat} {ops : Array Oper} {o : Oper} {st : St} {d : D} {H : HM} {nx : Nat} (O : newB own o = true) (hs : z0r P own ops o st d H nx) : zfp st H nx := by
 have h0 : zfp st st.H st.nx := ⟨Nat.le_refl _, fun _ _ => rfl⟩
 unfold newB at O
 split at O
 ·rename_i e hop
  unfold z0r at hs
  rcases hs with ⟨hg, ⟨f, args, tys, g, cap, hop2, _⟩ | hs⟩ | ⟨hg, h1, h2, h3⟩
  ·rw [hop] at hop2; cases hop2
  ·unfold opR at hs
   simp only [hop, Option.map_eq_some_iff, Prod.mk.injEq] at hs
   obtain ⟨⟨zs, _, _, rfl, rfl⟩, _⟩ := hs
   refine ⟨Nat.le_succ _, fun id hlt => ?_⟩
   unfold z1f
   rw [if_neg (by omega)]
  ·subst h2; subst h3; exact h0
 ·rename_i c args tys hop
  simp only [Bool.and_eq_true, Option.isNone_iff_eq_none] at O
  unfold z0r at hs
  rcases hs with ⟨hg, hs⟩ | ⟨hg, h1, h2, h3⟩
  ·rcases hs with ⟨f, args, tys, g, cap, hop2, _, ⟨_, _, _, h1, h2⟩ | ⟨_, _, h1, h2⟩ | ⟨_, _, _, hsb⟩⟩ | hs
   ·subst h1; subst h2; exact h0
   ·subst h1; subst h2; exact h0
   ·rcases hsb with ⟨_, ⟨hm, _⟩ | ⟨_, hsb⟩⟩ | ⟨k, o', ht, _⟩
    ·rename_i hop3 _ _ _ _
     have := O.2
     first | (rw [hm] at this; cases this) | (rw [this] at hm; cases hm)
    ·exact hsb
    ·rw [O.1.2] at ht; cases ht
   ·have := hs.1
    unfold opR at this
    rw [hop] at this
    cases this
  ·subst h2; subst h3; exact h0
 ·cases O
theorem zlz {st : St} {H : HM} {nx : Nat} {t : TypeId} {p d : D} (hb : zfp st H nx) (h : z9k P st.H st.nx t p = some d) : z9k P H nx t p = some d := by
 cases p <;> first | exact h | skip
 rename_i id off
 simp only [z9k, z3p] at h ⊢
 split at h
 ·rename_i hlt
  rw [if_pos (Nat.lt_of_lt_of_le hlt hb.1)]
  split at h
  ·rename_i hid
   rw [hb.2 id hlt, hid]; exact h
  ·cases h
 ·cases h
def zuz (own : List Nat) (o : Oper) : Bool :=
 match o.op with
 | .call { callee := .value _, .. } => z0h 11000000 own o.dst && !z0h 5000000 own o.dst && !z0h 4000000 own o.dst
 | _ => false
theorem zv0 {own : List Nat} {o : Oper} (hl : zuz own o = true) : cls own o = 1 := by
 unfold zuz at hl
 split at hl
 ·rename_i hop
  simp only [Bool.and_eq_true, Bool.not_eq_true'] at hl
  unfold cls; rw [hop]; simp only [hl.1.2, hl.2, Bool.false_eq_true, if_false]
 ·cases hl
theorem zm0 {own : List Nat} {ops : Array Oper} {o : Oper} {st : St} {d : D} {H : HM} {nx : Nat} (hl : zuz own o = true) (hb : zfp st H nx) (hs : z0r P own ops o st d st.H st.nx) : z0r P own ops o (st.withH H nx) d H nx := by
 unfold zuz at hl
 split at hl
 ·rename_i c args0 tys0 hop0
  simp only [Bool.and_eq_true, Bool.not_eq_true'] at hl
  unfold z0r at *
  rcases hs with ⟨hg, hs⟩ | ⟨hg, h1, _, _⟩
  ·refine .inl ⟨hg, ?_⟩
   rcases hs with ⟨f, args, tys, g, cap, hop, hf, ⟨h0, ht, hrc, _, _⟩ | ⟨h0, _⟩ | ⟨_, hm, _⟩⟩ | hs
   ·refine .inl ⟨f, args, tys, g, cap, hop, by rw [z1u]; exact hf, .inl ⟨h0, ht, ?_, rfl, rfl⟩⟩
    rw [z1u]
    exact ⟨hrc.2 hl.1.1 H nx hb, fun _ H2 n2 h2 => hrc.2 hl.1.1 H2 n2 ⟨Nat.le_trans hb.1 h2.1, fun id hid => (h2.2 id (Nat.lt_of_lt_of_le hid hb.1)).trans (hb.2 id hid)⟩⟩
   ·rw [hl.1.2] at h0; cases h0
   ·rw [hl.2] at hm; cases hm
   ·have := hs.1
    unfold opR at this
    rw [hop0] at this
    cases this
  ·exact .inr ⟨hg, h1, rfl, rfl⟩
 ·cases hl
theorem zk2 {own : List Nat} {ops : Array Oper} {o : Oper} {st : St} {d : D} {H : HM} {nx : Nat} (hl : z72 own o = true) (hb : zfp st H nx) (hs : z0r P own ops o st d st.H st.nx) : z0r P own ops o (st.withH H nx) d H nx := by
 obtain ⟨t, p, hop, hop2⟩ := zgh (P := P) hl
 have e1 : opR P own o (st.withH H nx) = (z9k P H nx t (st.ev p)).map fun d => (d, H, nx) := by rw [hop2, z1u]; rfl
 have e2 : opR P own o st = (z9k P st.H st.nx t (st.ev p)).map fun d => (d, st.H, st.nx) := by rw [hop2]; rfl
 unfold z0r at *
 rcases hs with ⟨hg, hs⟩ | ⟨hg, h1, _, _⟩
 ·refine .inl ⟨hg, .inr ?_⟩
  rcases hs with ⟨f, args, tys, g, cap, hop', _⟩ | hs
  ·rw [hop] at hop'; cases hop'
  ·rw [e2, Option.map_eq_some_iff] at hs
   obtain ⟨⟨d1, h1, h2⟩, hok⟩ := hs
   simp only [Prod.mk.injEq, and_true] at h2
   subst h2
   rw [e1, zlz hb h1]; exact ⟨rfl, by rw [z7q hop (isG_B hl)]; exact hok⟩
 ·exact .inr ⟨hg, h1, rfl, rfl⟩
def zk3 (own : List Nat) (o : Oper) : Bool :=
 match o.op with
 | .load .. => isG own o.dst
 | .indexAddr .. => isG own o.dst
 | _ => false
theorem zpr {own : List Nat} {o : Oper} (hl : zk3 own o = true) : cls own o = 1 := by
 unfold zk3 at hl
 split at hl
 ·rename_i hop
  unfold cls; rw [hop]
 ·rename_i hop
  simp only [isG, Bool.and_eq_true, Bool.not_eq_true'] at hl
  unfold cls; rw [hop]; simp only [hl.1.1.2, Bool.false_eq_true, if_false]
 ·cases hl
theorem zzg {own : List Nat} {dst : Option Nat} {n m : Nat} {d : D} (hle : n <= m) (h : okG own dst n d = true) : okG own dst m d = true := by
 unfold okG at *
 split
 ·rename_i hg
  rw [if_pos hg] at h
  cases d <;> first | (cases h; done) | (exact decide_eq_true (Nat.lt_of_lt_of_le (of_decide_eq_true h) hle))
 ·rfl
theorem zk4 {own : List Nat} {ops : Array Oper} {o : Oper} {st : St} {d : D} {H : HM} {nx : Nat} (hl : zk3 own o = true) (hb : zfp st H nx) (hs : z0r P own ops o st d st.H st.nx) : z0r P own ops o (st.withH H nx) d H nx := by
 unfold zk3 at hl
 split at hl
 ·rename_i t p hop
  unfold z0r at *
  rcases hs with ⟨hg, hs⟩ | ⟨hg, h1, _, _⟩
  ·refine .inl ⟨hg, .inr ?_⟩
   rcases hs with ⟨f, args, tys, g, cap, hop', _⟩ | ⟨hs, hok⟩
   ·rw [hop] at hop'; cases hop'
   ·have h3 := hl
    simp only [isG, Bool.and_eq_true, Bool.not_eq_true'] at h3
    have e : ∀ st : St, opR P own o st = st.keep (z3p P st.H t (st.ev p)) := fun st => by
     unfold opR; rw [hop]
     simp only [zaa, h3.1.1.2, h3.1.2, Bool.false_eq_true, if_false]
    rw [e] at hs ⊢
    obtain ⟨h1, _, _⟩ := z16 hs
    rw [z1b, z1u]
    unfold okW at hok ⊢
    rw [hop] at hok ⊢
    simp only [Bool.and_eq_true] at hok ⊢
    obtain ⟨hok1, hok2⟩ := hok
    have h2 : z3p P H t (st.ev p) = some d := by
     rw [<- h1]
     unfold okG at hok2
     rw [if_pos hl] at hok2
     split at hok2
     ·rename_i id off he
      rw [he]
      have := hb.2 id (of_decide_eq_true hok2)
      simp only [z3p, this]
     ·rename_i id off k he
      rw [he]
      have := hb.2 id (of_decide_eq_true hok2)
      simp only [z3p, this]
     ·rename_i he; rw [he]; rfl
     ·cases hok2
    refine ⟨by show Option.map _ (z3p P H t (st.ev p)) = _; rw [h2]; rfl, hok1, ?_⟩
    rw [z1u]
    have hle : st.nx <= nx := hb.1
    exact zzg hle hok2
  ·exact .inr ⟨hg, h1, rfl, rfl⟩
 ·rename_i t x i hop
  unfold z0r at *
  rcases hs with ⟨hg, hs⟩ | ⟨hg, h1, _, _⟩
  ·refine .inl ⟨hg, .inr ?_⟩
   rcases hs with ⟨f, args, tys, g, cap, hop', _⟩ | ⟨hs, hok⟩
   ·rw [hop] at hop'; cases hop'
   ·have h3 := hl
    simp only [isG, Bool.and_eq_true, Bool.not_eq_true'] at h3
    have e : ∀ st : St, opR P own o st = st.keep (z0p P st.H t (st.ev x) (st.ev i)) := fun st => by
     unfold opR; rw [hop]
     simp only [hmG, h3.1.1.2, h3.1.2, Bool.false_eq_true, if_false]
    rw [e] at hs ⊢
    obtain ⟨h1, _, _⟩ := z16 hs
    rw [z1b, z1u]
    unfold okW at hok ⊢
    rw [hop] at hok ⊢
    simp only [Bool.and_eq_true] at hok ⊢
    obtain ⟨hok1, hok2⟩ := hok
    have h2 : z0p P H t (st.ev x) (st.ev i) = some d := by
     rw [<- h1]
     unfold okG at hok2
     rw [if_pos hl] at hok2
     split at hok2
     ·rename_i he; rw [he]; unfold z0p; rfl
     ·rename_i he; rw [he]; unfold z0p; rfl
     ·rename_i id k he
      rw [he]
      have := hb.2 id (of_decide_eq_true hok2)
      unfold z0p
      cases z0x P t with
      | none => rfl
      | some e => cases st.ev i <;> first | rfl | simp only [this]
     ·cases hok2
    refine ⟨by show Option.map _ (z0p P H t (st.ev x) (st.ev i)) = _; rw [h2]; rfl, hok1, ?_⟩
    rw [z1u]
    exact zzg hb.1 hok2
  ·exact .inr ⟨hg, h1, rfl, rfl⟩
 ·cases hl
def zb0 (own : List Nat) (o : Oper) : Bool :=
 match o.op with
 | .load .. => z0h 6000000 own o.dst && !z0h 3000000 own o.dst
 | .indexAddr .. => z0h 6000000 own o.dst && !z0h 3000000 own o.dst
 | _ => false
def zk5 (own : List Nat) (o : Oper) : Bool :=
 match o.op with
 | .buildSlice .. => z0h 7000000 own o.dst && zfw own o.dst
 | .alloc _ => z0h 7000000 own o.dst
 | .call { callee := .builtin .append, .. } => z0h 7000000 own o.dst && !z0h 1000000 own o.dst
 | _ => false
theorem z9g {H : HM} {i j : Nat} {o : Option HObj} (h : ¬ j = i) : z1f H i o j = H j := if_neg h
def zm1 (B : Nat) (H H' : HM) : Prop := ∀ id, id < B -> H' id = H id
theorem zv1 {B : Nat} {H H' : HM} (h : zm1 B H H') : cutB B H' = cutB B H := by
 funext id
 unfold cutB
 split
 ·rename_i hlt; exact h id hlt
 ·rfl
theorem zgi {own : List Nat} {o : Oper} (hl : zb0 own o = true) : cls own o = 1 := by
 unfold zb0 at hl
 split at hl
 ·rename_i hop; unfold cls; rw [hop]
 ·rename_i hop
  simp only [Bool.and_eq_true, Bool.not_eq_true'] at hl
  unfold cls; rw [hop]; simp only [hl.2, Bool.false_eq_true, if_false]
 ·cases hl
theorem zps {own : List Nat} {o : Oper} (hl : zb0 own o = true) {st : St} {H : HM} {nx : Nat} (h : zm1 (z2a own) st.H H) (d : D) :
  (opR P own o st = some (d, st.H, st.nx) ↔ opR P own o (st.withH H nx) = some (d, H, nx)) := by
 have hc := zv1 h
 unfold zb0 at hl
 split at hl
 ·rename_i t p hop
  simp only [Bool.and_eq_true, Bool.not_eq_true'] at hl
  unfold opR
  simp only [hop, zaa, hl.1, hl.2, Bool.false_eq_true, if_false, if_true, z1u]
  show (st.keep _ = _) ↔ ((st.withH H nx).keep (z3p P (cutB (z2a own) H) t (st.ev p)) = _)
  rw [hc]
  simp only [St.keep, Option.map_eq_some_iff, Prod.mk.injEq]
  constructor
  ·rintro ⟨a, h1, h2, _⟩; exact ⟨a, h1, h2, by simp [St.withH]⟩
  ·rintro ⟨a, h1, h2, _⟩; exact ⟨a, h1, h2, by simp⟩
 ·rename_i t x i hop
  simp only [Bool.and_eq_true, Bool.not_eq_true'] at hl
  unfold opR
  simp only [hop, hmG, hl.1, hl.2, Bool.false_eq_true, if_false, if_true, z1u]
  show (st.keep _ = _) ↔ ((st.withH H nx).keep (z0p P (cutB (z2a own) H) t (st.ev x) (st.ev i)) = _)
  rw [hc]
  simp only [St.keep, Option.map_eq_some_iff, Prod.mk.injEq]
  constructor
  ·rintro ⟨a, h1, h2, _⟩; exact ⟨a, h1, h2, by simp [St.withH]⟩
  ·rintro ⟨a, h1, h2, _⟩; exact ⟨a, h1, h2, by simp⟩
 ·cases hl
theorem zcl {own : List Nat} {ops : Array Oper} {o : Oper} {st : St} {d : D} {H : HM} {nx : Nat} (hl : zb0 own o = true) (h : zm1 (z2a own) st.H H) :
  z0r P own ops o st d st.H st.nx ↔ z0r P own ops o (st.withH H nx) d H nx := by
 have hok : okW own o (st.withH H nx) = okW own o st := by
  unfold zb0 at hl
  split at hl
  ·rename_i hop; exact z7q hop
  ·rename_i hop; exact zeo hop (by simp_all [isG])
  ·cases hl
 have hno : ∀ f args tys, o.op ≠ .call { callee := .value f, args := args, argTypes := tys } := fun f args tys e => by unfold zb0 at hl; rw [e] at hl; cases hl
 have hr := zps (P := P) hl (nx := nx) h d
 unfold z0r
 rw [zep]
 constructor
 ·rintro (⟨hg, ⟨f, args, tys, g, cap, hop, _⟩ | hs⟩ | ⟨hg, h1, _, _⟩)
  ·exact (hno _ _ _ hop).elim
  ·exact .inl ⟨hg, .inr ⟨hr.1 hs.1, by rw [hok]; exact hs.2⟩⟩
  ·exact .inr ⟨hg, h1, rfl, rfl⟩
 ·rintro (⟨hg, ⟨f, args, tys, g, cap, hop, _⟩ | hs⟩ | ⟨hg, h1, _, _⟩)
  ·exact (hno _ _ _ hop).elim
  ·exact .inl ⟨hg, .inr ⟨hr.2 hs.1, by rw [<- hok]; exact hs.2⟩⟩
  ·exact .inr ⟨hg, h1, rfl, rfl⟩
theorem zb1 {B : Nat} {H : HM} {nx : Nat} {t : TypeId} {x y d : D} {H' : HM} {nx' : Nat} (h : z63 P H nx t x y = some (d, H', nx')) (hx : ∀ id n, x = .osl id n -> B <= id) (hn : B <= nx) : zm1 B H H' /\ ∀ id n, d = .osl id n -> B <= id := by
 unfold z63 at h
 split at h
 ·split at h
  ·simp only [Option.bind_eq_some_iff] at h
   obtain ⟨⟨m, news⟩, _, h⟩ := h
   simp only at h
   split at h
   ·split at h
    ·simp only [Option.some.injEq, Prod.mk.injEq] at h
     obtain ⟨rfl, rfl, _⟩ := h
     exact ⟨fun id hid => z9g (by omega), fun id n e => by cases e; exact hn⟩
    ·cases h
   ·rename_i id0 n0
    have hb := hx _ _ rfl
    split at h
    ·split at h
     ·simp only [Option.some.injEq, Prod.mk.injEq] at h
      obtain ⟨rfl, rfl, _⟩ := h
      exact ⟨fun id hid => z9g (by omega), fun id n e => by cases e; exact hb⟩
     ·cases h
    ·cases h
   ·split at h
    ·simp only [Option.some.injEq, Prod.mk.injEq] at h
     obtain ⟨rfl, rfl, _⟩ := h
     exact ⟨fun id hid => rfl, fun id n e => by cases e⟩
    ·split at h
     ·simp only [Option.map_eq_some_iff, Prod.mk.injEq] at h
      obtain ⟨_, _, rfl, rfl, _⟩ := h
      exact ⟨fun id hid => z9g (by omega), fun id n e => by cases e; exact hn⟩
     ·cases h
   ·cases h
  ·cases h
 ·cases h
theorem zm2 {B : Nat} {d d' : D} {H H' : HM} {nx nx' : Nat} (h : zc6 P (d, H, nx) = some (d', H', nx')) (V : ∀ id n, d = .osl id n -> B <= id) : zm1 B H H' := by
 unfold zc6 at h
 split at h
 ·rename_i id n H0 nx0 e
  simp only [Prod.mk.injEq] at e
  obtain ⟨rfl, rfl, rfl⟩ := e
  have hb := V _ _ rfl
  split at h
  ·split at h
   ·simp only [Option.some.injEq, Prod.mk.injEq] at h
    obtain ⟨_, rfl, _⟩ := h
    exact fun id hid => z9g (by omega)
   ·cases h
  ·cases h
 ·rename_i heq
  simp only [Prod.mk.injEq] at heq
  obtain ⟨rfl, rfl, rfl⟩ := heq
  simp only [Option.some.injEq, Prod.mk.injEq] at h
  obtain ⟨_, rfl, _⟩ := h
  exact fun id hid => rfl
 ·cases h
theorem zcm {own : List Nat} {ops : Array Oper} {o : Oper} {st : St} {d : D} {H : HM} {nx : Nat} (O : zk5 own o = true) (hs : z0r P own ops o st d H nx) : zm1 (z2a own) st.H H := by
 have h0 : zm1 (z2a own) st.H st.H := fun _ _ => rfl
 unfold z0r at hs
 rcases hs with ⟨hg, ⟨f, args, tys, g, cap, hop, _⟩ | ⟨hs, hok⟩⟩ | ⟨hg, h1, h2, h3⟩
 ·unfold zk5 at O; rw [hop] at O; cases O
 ·unfold zk5 at O
  unfold okW at hok
  unfold opR at hs
  split at O
  ·rename_i hop
   simp only [Bool.and_eq_true] at O
   simp only [hop, O.1, O.2, and_self, if_true, decide_eq_true_eq] at hok hs
   split at hs
   ·split at hs
    ·simp only [Option.bind_eq_some_iff] at hs
     obtain ⟨cs, _, hs⟩ := hs
     simp only [Option.some.injEq, Prod.mk.injEq] at hs
     obtain ⟨_, rfl, _⟩ := hs
     exact fun id hid => z9g (by omega)
    ·cases hs
   ·cases hs
  ·rename_i hop
   simp only [hop, O, if_true, decide_eq_true_eq, Option.map_eq_some_iff, Prod.mk.injEq] at hok hs
   obtain ⟨zs, _, _, rfl, _⟩ := hs
   exact fun id hid => z9g (by omega)
  ·rename_i hop
   simp only [Bool.and_eq_true, Bool.not_eq_true'] at O
   simp only [hop, O.1, if_true] at hok hs
   split at hs
   all_goals first
    | (simp only [reduceCtorEq] at *; done)
    | skip
   ·rename_i hargs _
    split at hs
    ·simp only [O.2, Bool.false_eq_true, if_false] at hs
     simp only [hargs] at hok
     have hx : ∀ id n, st.ev _ = .osl id n -> z2a own <= id := fun id n e => by
      rw [e] at hok
      simp only [decide_eq_true_eq] at hok
      exact hok.1
     have hn : z2a own <= st.nx := by
      split at hok
      ·simp only [decide_eq_true_eq] at hok; exact hok.2
      ·simp only [decide_eq_true_eq] at hok; exact hok
     split at hs
     ·simp only [Option.bind_eq_some_iff] at hs
      obtain ⟨⟨d1, H1, n1⟩, h1, h2⟩ := hs
      obtain ⟨g1, g2⟩ := zb1 h1 hx hn
      have g3 := zm2 h2 g2
      exact fun id hid => (g3 id hid).trans (g1 id hid)
     ·exact (zb1 hs hx hn).1
    ·cases hs
  ·cases O
 ·subst h2; exact h0
def zy2 (own : List Nat) (o : Oper) : Option Nat :=
 match o.op with
 | .store _ p _ => (zk0 p).bind fun i => za5 i own
 | .load _ _ => if z0h 3000000 own o.dst = true \/ z0h 6000000 own o.dst = true \/ z0h 12000000 own o.dst = true then none else o.dst.bind fun i => za5 i own
 | .indexAddr _ _ _ => if z0h 3000000 own o.dst = true \/ z0h 6000000 own o.dst = true \/ z0h 12000000 own o.dst = true then none else o.dst.bind fun i => za5 i own
 | .call { callee := .value _, .. } => if z0h 5000000 own o.dst = true then none else tcM own o.dst
 | _ => none
def zd1 (own : List Nat) (o : Oper) : Bool :=
 match o.op with
 | .call { callee := .value _, .. } => !z0h 5000000 own o.dst && (tcM own o.dst).isSome
 | _ => false
def newW (own : List Nat) (o : Oper) : Bool :=
 match o.op with
 | .alloc _ => z0h 7000000 own o.dst
 | _ => false
theorem z5z {own : List Nat} {ops : Array Oper} {o : Oper} {st : St} {d : D} {H : HM} {nx : Nat} (O : zd1 own o = true) (hs : z0r P own ops o st d H nx) :
  (H = st.H /\ nx = st.nx /\ ∀ H2 n2, z0r P own ops o (st.withH H2 n2) d H2 n2) \/
  ∃ k o', tcM own o.dst = some (k + 900000) /\ k < z2a own /\ z2a own <= st.nx /\ nx = st.nx /\ H = z1f st.H k o' /\ ∀ H2 n2, z2a own <= n2 -> H2 k = st.H k -> z0r P own ops o (st.withH H2 n2) d (z1f H2 k o') n2 := by
 unfold zd1 at O
 split at O
 ·rename_i f0 args0 tys0 hop0
  simp only [Bool.and_eq_true, Bool.not_eq_true'] at O
  obtain ⟨h5, ht0⟩ := O
  unfold z0r at hs
  rcases hs with ⟨hg, ⟨f, args, tys, g, cap, hop, hf, ⟨_, ht, _⟩ | ⟨h0, _⟩ | ⟨h0, hm, hac, hcb⟩⟩ | ⟨hs, hok⟩⟩ | ⟨hg, h1, h2, h3⟩
  ·rw [ht] at ht0; cases ht0
  ·rw [h5] at h0; cases h0
  ·rcases hcb with ⟨ht, _⟩ | ⟨k, o', ht, hb, hbn, hn, hH, hall⟩
   ·rw [ht] at ht0; cases ht0
   ·refine .inr ⟨k, o', ht, hb, hbn, hn, hH, fun H2 n2 hn2 hH2 => ?_⟩
    refine .inl ⟨hg, .inl ⟨f, args, tys, g, cap, hop, by rw [z1u]; exact hf, .inr (.inr ⟨h0, hm, ?_, .inr ⟨k, o', ht, hb, hn2, rfl, rfl, fun H' n' h1 h2 => ?_⟩⟩)⟩⟩
    ·rw [z1u]; exact hall H2 n2 hn2 hH2
    ·rw [z1u]
     have h2 : H' k = H2 k := h2
     exact hall H' n' h1 (h2.trans hH2)
  ·unfold opR at hs
   rw [hop0] at hs
   cases hs
  ·exact .inl ⟨h2, h3, fun H2 n2 => .inr ⟨hg, h1, rfl, rfl⟩⟩
 ·cases O
theorem zgj {own : List Nat} {ops : Array Oper} {o : Oper} {st : St} {d : D} {H : HM} {nx : Nat} (O : newW own o = true) (hs : z0r P own ops o st d H nx) :
  (H = st.H /\ nx = st.nx /\ ∀ H2 n2, z0r P own ops o (st.withH H2 n2) d H2 n2) \/
  ∃ q, z2a own <= st.nx /\ H = z1f st.H st.nx (some q) /\ nx = st.nx + 1 /\ ∀ H2, z0r P own ops o (st.withH H2 st.nx) d (z1f H2 st.nx (some q)) (st.nx + 1) := by
 unfold newW at O
 split at O
 ·rename_i e hop0
  unfold z0r at hs
  rcases hs with ⟨hg, ⟨f, args, tys, g, cap, hop, _⟩ | ⟨hs, hok⟩⟩ | ⟨hg, h1, h2, h3⟩
  ·rw [hop0] at hop; cases hop
  ·refine .inr ?_
   have hw : ∀ H2, okW own o (st.withH H2 st.nx) = true := fun H2 => by
    rw [<- hok]; unfold okW; rw [hop0]; rfl
   unfold okW at hok
   rw [hop0] at hok
   simp only [O, if_true, decide_eq_true_eq] at hok
   have e1 : ∀ st : St, opR P own o st = (z17 P e).map fun zs => (.ptr st.nx 0, z1f st.H st.nx (some (.box e zs)), st.nx + 1) := fun st => by unfold opR; rw [hop0]
   rw [e1, Option.map_eq_some_iff] at hs
   obtain ⟨zs, hz, h2⟩ := hs
   simp only [Prod.mk.injEq] at h2
   obtain ⟨rfl, rfl, rfl⟩ := h2
   refine ⟨.box e zs, hok, rfl, rfl, fun H2 => .inl ⟨hg, .inr ⟨?_, hw H2⟩⟩⟩
   rw [e1, hz]; rfl
  ·exact .inl ⟨h2, h3, fun H2 n2 => .inr ⟨hg, h1, rfl, rfl⟩⟩
 ·cases O
theorem zk6 {H : HM} {i j : Nat} {a b : Option HObj} (h : i ≠ j) : z1f (z1f H i a) j b = z1f (z1f H j b) i a := by
 funext k
 unfold z1f
 by_cases h1 : k = j
 ·subst h1; rw [if_pos rfl, if_neg (fun e => h e.symm), if_pos rfl]
 ·rw [if_neg h1]
  by_cases h2 : k = i
  ·rw [if_pos h2, if_pos h2]
  ·rw [if_neg h2, if_neg h2, if_neg h1]
theorem swap_tn {own : List Nat} {ops : Array Oper} {x y : Oper} {st : St} {dx dy : D} {H1 H2 : HM} {n1 n2 : Nat} (hx0 : zd1 own x = true) (hy0 : newW own y = true) (hx : z0r P own ops x st dx H1 n1) (hy : z0r P own ops y (st.withH H1 n1) dy H2 n2) :
  ∃ H3 n3, z0r P own ops y st dy H3 n3 /\ z0r P own ops x (st.withH H3 n3) dx H2 n2 := by
 rcases z5z hx0 hx with ⟨rfl, rfl, hany⟩ | ⟨k, o', _, hb, hbn, rfl, rfl, hx2⟩
 ·exact ⟨H2, n2, hy, hany H2 n2⟩
 ·rcases zgj hy0 hy with ⟨rfl, rfl, hany⟩ | ⟨q, hbn, rfl, rfl, hy2⟩
  ·exact ⟨st.H, st.nx, hany st.H st.nx, hx⟩
  ·have hbn : z2a own <= st.nx := hbn
   refine ⟨z1f st.H st.nx (some q), st.nx + 1, hy2 st.H, ?_⟩
   have := hx2 (z1f st.H st.nx (some q)) (st.nx + 1) (by omega) (by unfold z1f; rw [if_neg (by omega)])
   rw [zk6 (by omega)] at this
   exact this
theorem swap_nt {own : List Nat} {ops : Array Oper} {x y : Oper} {st : St} {dx dy : D} {H1 H2 : HM} {n1 n2 : Nat} (hx0 : newW own x = true) (hy0 : zd1 own y = true) (hx : z0r P own ops x st dx H1 n1) (hy : z0r P own ops y (st.withH H1 n1) dy H2 n2) :
  ∃ H3 n3, z0r P own ops y st dy H3 n3 /\ z0r P own ops x (st.withH H3 n3) dx H2 n2 := by
 rcases zgj hx0 hx with ⟨rfl, rfl, hany⟩ | ⟨q, hbn, rfl, rfl, hx2⟩
 ·exact ⟨H2, n2, hy, hany H2 n2⟩
 ·rcases z5z hy0 hy with ⟨rfl, rfl, hany⟩ | ⟨k, o', _, hb, _, rfl, rfl, hy2⟩
  ·exact ⟨st.H, st.nx, hany st.H st.nx, hx⟩
  ·have hne : k ≠ st.nx := by omega
   have h1 := hy2 st.H st.nx hbn (by show st.H k = z1f st.H st.nx (some q) k; unfold z1f; rw [if_neg hne])
   refine ⟨z1f st.H k o', st.nx, h1, ?_⟩
   have := hx2 (z1f st.H k o')
   rw [zk6 hne] at this
   exact this
theorem zk7 {H H' : HM} {t : TypeId} {d : D} {id : Nat} (V : zuw d = some id) (h : H' id = H id) : z3p P H' t d = z3p P H t d := by
 cases d <;> first | (simp [zuw] at V; done) | skip
 all_goals (simp only [zuw, Option.some.injEq] at V; subst V; unfold z3p; try simp only [h])
theorem zv2 {H H' : HM} {t : TypeId} {id off : Nat} (h : H' id = H id) : z3p P H' t (.ptr id off) = z3p P H t (.ptr id off) := zk7 rfl h
theorem zfr {H H' : HM} {t : TypeId} {d i : D} {id : Nat} (V : zuw d = some id) (h : H' id = H id) : z0p P H' t d i = z0p P H t d i := by
 cases d <;> first | (simp [zuw] at V; done) | skip
 all_goals (simp only [zuw, Option.some.injEq] at V; subst V; cases i <;> (unfold z0p; try simp only [h]))
theorem zpt {H H1 : HM} {t : TypeId} {d v : D} {id : Nat} (V : zuw d = some id) (h : z5f P H t d v = some H1) : (∀ j, j ≠ id -> H1 j = H j) /\ ∀ H', H' id = H id -> z5f P H' t d v = some fun j => if j = id then H1 id else H' j := by
 unfold z5f at h
 split at h
 ·rename_i vs hv
  split at h
  ·rename_i hl
   have fin : ∀ (q : Option HObj) (H' : HM), z1f H' id q = fun j => if j = id then z1f H id q id else H' j := fun q H' => by
    funext j
    unfold z1f
    by_cases h1 : j = id
    ·rw [if_pos h1, if_pos h1, if_pos rfl]
    ·rw [if_neg h1, if_neg h1]
   cases d <;> first | (simp [zuw] at V; done) | (cases h; done) | skip
   all_goals
    simp only [zuw, Option.some.injEq] at V
    subst V
    simp only at h
    split at h
    ·rename_i cs hH
     split at h
     ·rename_i hle
      simp only [Option.some.injEq] at h
      subst h
      refine ⟨fun j hj => by unfold z1f; rw [if_neg hj], fun H' hH' => ?_⟩
      unfold z5f
      simp only [hv, hH', hH, if_pos hl, if_pos hle, Option.some.injEq]
      exact fin _ H'
     ·cases h
    ·cases h
  ·cases h
 ·cases h
theorem zer {own : List Nat} {ops : Array Oper} {o : Oper} {st : St} {d : D} {H : HM} {nx a : Nat} (O : zy2 own o = some a) (hs : z0r P own ops o st d H nx) :
  (H = st.H /\ nx = st.nx /\ ∀ H2 n2, z0r P own ops o (st.withH H2 n2) d H2 n2) \/
  ∃ id, id + 900000 = a /\ nx = st.nx /\ (∀ j, j ≠ id -> H j = st.H j) /\ ∀ H2 n2, st.nx <= n2 -> H2 id = st.H id -> z0r P own ops o (st.withH H2 n2) d (fun j => if j = id then H id else H2 j) n2 := by
 unfold zy2 at O
 split at O
 ·rename_i t p v hop
  simp only [Option.bind_eq_some_iff] at O
  obtain ⟨i, hi, O⟩ := O
  unfold z0r at hs
  rcases hs with ⟨hg, ⟨f, args, tys, g, cap, hop', _⟩ | ⟨hs, hok⟩⟩ | ⟨hg, h1, h2, h3⟩
  ·rw [hop] at hop'; cases hop'
  ·refine .inr ?_
   have hw : ∀ H2 n2, okW own o (st.withH H2 n2) = true := fun H2 n2 => by
    rw [<- hok]; unfold okW; rw [hop]; rfl
   unfold okW at hok
   rw [hop] at hok
   simp only [okT, hi, O] at hok
   split at hok
   ·rename_i id he
    rw [decide_eq_true_eq] at hok
    have e : ∀ st : St, opR P own o st = (z5f P st.H t (st.ev p) (st.ev v)).map fun x => (.any, x, st.nx) := fun st => by unfold opR; rw [hop]
    rw [e, Option.map_eq_some_iff] at hs
    obtain ⟨H1, h1, h2⟩ := hs
    simp only [Prod.mk.injEq] at h2
    obtain ⟨rfl, rfl, rfl⟩ := h2
    obtain ⟨g1, g2⟩ := zpt he h1
    refine ⟨id, hok, rfl, g1, fun H2 n2 _ hH2 => .inl ⟨hg, .inr ⟨?_, hw H2 n2⟩⟩⟩
    rw [e]
    rw [z1u]
    show (z5f P H2 t (st.ev p) (st.ev v)).map _ = _
    rw [g2 H2 hH2]; rfl
   ·cases hok
  ·exact .inl ⟨h2, h3, fun H2 n2 => .inr ⟨hg, h1, rfl, rfl⟩⟩
 ·rename_i t p hop
  split at O
  ·cases O
  rename_i hm
  rw [not_or, not_or] at hm
  have hG : isG own o.dst = false := by unfold isG; simp [hm.2.2]
  replace hm : ¬ z0h 3000000 own o.dst = true /\ ¬ z0h 6000000 own o.dst = true := ⟨hm.1, hm.2.1⟩
  simp only [Option.bind_eq_some_iff] at O
  obtain ⟨i, hi, O⟩ := O
  unfold z0r at hs
  rcases hs with ⟨hg, ⟨f, args, tys, g, cap, hop', _⟩ | ⟨hs, hok⟩⟩ | ⟨hg, h1, h2, h3⟩
  ·rw [hop] at hop'; cases hop'
  ·refine .inr ?_
   have hw : ∀ H2 n2, okW own o (st.withH H2 n2) = true := fun H2 n2 => by
    rw [<- hok]; exact z7q hop hG
   unfold okW at hok
   rw [hop] at hok
   rw [Bool.and_eq_true, Bool.and_eq_true] at hok
   replace hok := hok.1.1
   simp only [okT, hi, O] at hok
   split at hok
   ·rename_i id he
    rw [decide_eq_true_eq] at hok
    have e : ∀ st : St, opR P own o st = st.keep (z3p P st.H t (st.ev p)) := fun st => by
     unfold opR; rw [hop]
     simp only [zaa, if_neg hm.1, if_neg hm.2]
    rw [e] at hs
    obtain ⟨h1, rfl, rfl⟩ := z16 hs
    refine ⟨id, hok, rfl, fun _ _ => rfl, fun H2 n2 _ hH2 => ?_⟩
    have e2 : (fun j => if j = id then st.H id else H2 j) = H2 := by
     funext j
     by_cases hj : j = id
     ·rw [if_pos hj, hj, hH2]
     ·rw [if_neg hj]
    rw [e2]
    refine .inl ⟨hg, .inr ⟨?_, hw H2 n2⟩⟩
    rw [e, z1b, z1u]
    show (z3p P H2 t (st.ev p)).map _ = _
    rw [zk7 he hH2, h1]; rfl
   ·cases hok
  ·exact .inl ⟨h2, h3, fun H2 n2 => .inr ⟨hg, h1, rfl, rfl⟩⟩
 ·rename_i t p q hop
  split at O
  ·cases O
  rename_i hm
  rw [not_or, not_or] at hm
  have hG : isG own o.dst = false := by unfold isG; simp [hm.2.2]
  replace hm : ¬ z0h 3000000 own o.dst = true /\ ¬ z0h 6000000 own o.dst = true := ⟨hm.1, hm.2.1⟩
  simp only [Option.bind_eq_some_iff] at O
  obtain ⟨i, hi, O⟩ := O
  unfold z0r at hs
  rcases hs with ⟨hg, ⟨f, args, tys, g, cap, hop', _⟩ | ⟨hs, hok⟩⟩ | ⟨hg, h1, h2, h3⟩
  ·rw [hop] at hop'; cases hop'
  ·refine .inr ?_
   have hw : ∀ H2 n2, okW own o (st.withH H2 n2) = true := fun H2 n2 => by
    rw [<- hok]; exact zeo hop hG
   unfold okW at hok
   rw [hop] at hok
   rw [Bool.and_eq_true, Bool.and_eq_true] at hok
   replace hok := hok.1.1
   simp only [okT, hi, O] at hok
   split at hok
   ·rename_i id he
    rw [decide_eq_true_eq] at hok
    have e : ∀ st : St, opR P own o st = st.keep (z0p P st.H t (st.ev p) (st.ev q)) := fun st => by
     unfold opR; rw [hop]
     simp only [hmG, if_neg hm.1, if_neg hm.2]
    rw [e] at hs
    obtain ⟨h1, rfl, rfl⟩ := z16 hs
    refine ⟨id, hok, rfl, fun _ _ => rfl, fun H2 n2 _ hH2 => ?_⟩
    have e2 : (fun j => if j = id then st.H id else H2 j) = H2 := by
     funext j
     by_cases hj : j = id
     ·rw [if_pos hj, hj, hH2]
     ·rw [if_neg hj]
    rw [e2]
    refine .inl ⟨hg, .inr ⟨?_, hw H2 n2⟩⟩
    rw [e, z1b, z1u]
    show (z0p P H2 t (st.ev p) (st.ev q)).map _ = _
    rw [zfr he hH2, h1]; rfl
   ·cases hok
  ·exact .inl ⟨h2, h3, fun H2 n2 => .inr ⟨hg, h1, rfl, rfl⟩⟩
 ·rename_i f args tys hop
  split at O
  ·cases O
  ·rename_i h5
   have ht : zd1 own o = true := by
    unfold zd1; rw [hop]; simp only [O]; simpa using h5
   rcases z5z ht hs with h | ⟨k, o', h1, _, h3, h4, h6, h7⟩
   ·exact .inl h
   ·rw [O] at h1
    cases h1
    refine .inr ⟨k, rfl, h4, fun j hj => by rw [h6]; unfold z1f; rw [if_neg hj], fun H2 n2 hn hH2 => ?_⟩
    have := h7 H2 n2 (by omega) hH2
    rw [show (fun j => if j = k then H k else H2 j) = z1f H2 k o' from by
     funext j
     unfold z1f
     by_cases e : j = k
     ·rw [if_pos e, if_pos e, h6]; unfold z1f; rw [if_pos rfl]
     ·rw [if_neg e, if_neg e]]
    exact this
 ·cases O
def zb2 (own : List Nat) (o : Oper) : Bool :=
 match o.op with
 | .load .. => z0h 9000000 own o.dst && !z0h 3000000 own o.dst && !z0h 6000000 own o.dst
 | .indexAddr .. => z0h 9000000 own o.dst && !z0h 3000000 own o.dst && !z0h 6000000 own o.dst
 | _ => false
theorem zgk {own : List Nat} {o : Oper} (hl : zb2 own o = true) : cls own o <= 1 := by
 unfold zb2 at hl
 split at hl
 ·rename_i hop; unfold cls; rw [hop]; exact Nat.le_refl _
 ·rename_i hop; unfold cls; rw [hop]; simp only; split <;> omega
 ·cases hl
theorem zcn {own : List Nat} {ops : Array Oper} {o : Oper} {st : St} {d : D} {H : HM} {nx n0 : Nat} {H0 : HM} (hl : zb2 own o = true) (h : ∀ id, z2a own <= id -> H id = H0 id) (hs : z0r P own ops o (st.withH H0 n0) d H0 n0) :
  z0r P own ops o (st.withH H nx) d H nx := by
 have hno : ∀ f args tys, o.op ≠ .call { callee := .value f, args := args, argTypes := tys } := fun f args tys e => by unfold zb2 at hl; rw [e] at hl; cases hl
 unfold z0r at *
 rw [zep] at *
 rcases hs with ⟨hg, ⟨f, args, tys, g, cap, hop, _⟩ | ⟨hs, hok⟩⟩ | ⟨hg, h1, _, _⟩
 ·exact (hno _ _ _ hop).elim
 ·refine .inl ⟨hg, .inr ?_⟩
  unfold zb2 at hl
  split at hl
  ·rename_i t p hop
   simp only [Bool.and_eq_true, Bool.not_eq_true'] at hl
   have hG : isG own o.dst = false := by unfold isG; simp [hl.1.1]
   have hok2 : okW own o (st.withH H nx) = true := (z7q hop hG).trans ((z7q hop hG).symm.trans hok)
   refine ⟨?_, hok2⟩
   unfold okW at hok
   rw [hop] at hok
   simp only [Bool.and_eq_true, okU, hl.1.1, if_true] at hok
   replace hok := hok.1
   have e : ∀ st : St, opR P own o st = st.keep (z3p P st.H t (st.ev p)) := fun st => by
    unfold opR; rw [hop]
    simp only [zaa, hl.1.2, hl.2, Bool.false_eq_true, if_false]
   rw [e] at hs ⊢
   obtain ⟨h1, _, _⟩ := z16 hs
   rw [z1b, z1u]
   rw [z1u] at h1 hok
   have h1 : z3p P H0 t (st.ev p) = some d := h1
   have h2 : z3p P H t (st.ev p) = some d := by
    rw [<- h1]
    have O := hok.2
    split at O
    ·rename_i id off he
     rw [he]; exact zv2 (h id (of_decide_eq_true O))
    ·rename_i id off he
     rw [he]; rfl
    ·rename_i q he
     rw [he]; rfl
    ·rename_i q he
     rw [he]; rfl
    ·cases O
   show (z3p P H t (st.ev p)).map _ = _
   rw [h2]; rfl
  ·rename_i t x i hop
   simp only [Bool.and_eq_true, Bool.not_eq_true'] at hl
   have hG : isG own o.dst = false := by unfold isG; simp [hl.1.1]
   have hok2 : okW own o (st.withH H nx) = true := (zeo hop hG).trans ((zeo hop hG).symm.trans hok)
   refine ⟨?_, hok2⟩
   unfold okW at hok
   rw [hop] at hok
   rw [Bool.and_eq_true, Bool.and_eq_true] at hok
   replace hok := hok.1.2
   simp only [okU, hl.1.1, if_true] at hok
   have e : ∀ st : St, opR P own o st = st.keep (z0p P st.H t (st.ev x) (st.ev i)) := fun st => by
    unfold opR; rw [hop]
    simp only [hmG, hl.1.2, hl.2, Bool.false_eq_true, if_false]
   rw [e] at hs ⊢
   obtain ⟨h1, _, _⟩ := z16 hs
   rw [z1b, z1u]
   rw [z1u] at h1 hok
   have h1 : z0p P H0 t (st.ev x) (st.ev i) = some d := h1
   have h2 : z0p P H t (st.ev x) (st.ev i) = some d := by
    rw [<- h1]
    have O := hok
    unfold z0p
    split at O
    ·rename_i id off he
     rw [he] <;> (cases z0x P t <;> cases st.ev i <;> rfl)
    ·rename_i id off he
     rw [he]
     have hid := h id (of_decide_eq_true O)
     cases z0x P t <;> cases st.ev i <;> first | rfl | simp only [hid]
    ·rename_i q he
     rw [he] <;> (cases z0x P t <;> cases st.ev i <;> rfl)
    ·rename_i q he
     rw [he] <;> (cases z0x P t <;> cases st.ev i <;> rfl)
    ·cases O
   show (z0p P H t (st.ev x) (st.ev i)).map _ = _
   rw [h2]; rfl
  ·cases hl
 ·exact .inr ⟨hg, h1, rfl, rfl⟩
theorem swap_ta {own : List Nat} {ops : Array Oper} {x y : Oper} {st : St} {dx dy : D} {H1 H2 : HM} {n1 n2 : Nat} (hx0 : zd1 own x = true) (hy0 : zb2 own y = true) (hx : z0r P own ops x st dx H1 n1) (hy : z0r P own ops y (st.withH H1 n1) dy H2 n2) :
  ∃ H3 n3, z0r P own ops y st dy H3 n3 /\ z0r P own ops x (st.withH H3 n3) dx H2 n2 := by
 obtain ⟨e1, e2⟩ := z2u (zgk hy0) hy
 have e1 : H2 = H1 := e1
 have e2 : n2 = n1 := e2
 subst e1; subst e2
 rcases z5z hx0 hx with ⟨h1, h2, hany⟩ | ⟨k, o', _, hb, hbn, h2, h1, hx2⟩
 ·subst h1; subst h2
  exact ⟨st.H, st.nx, hy, hx⟩
 ·subst h1; subst h2
  refine ⟨st.H, st.nx, ?_, hx⟩
  have := zcn (H := st.H) (nx := st.nx) hy0 (fun id hid => by unfold z1f; rw [if_neg (by omega)]) hy
  exact this
theorem swap_at {own : List Nat} {ops : Array Oper} {x y : Oper} {st : St} {dx dy : D} {H1 H2 : HM} {n1 n2 : Nat} (hx0 : zb2 own x = true) (hy0 : zd1 own y = true) (hx : z0r P own ops x st dx H1 n1) (hy : z0r P own ops y (st.withH H1 n1) dy H2 n2) :
  ∃ H3 n3, z0r P own ops y st dy H3 n3 /\ z0r P own ops x (st.withH H3 n3) dx H2 n2 := by
 obtain ⟨e1, e2⟩ := z2u (zgk hx0) hx
 subst e1; subst e2
 have hy' : z0r P own ops y st dy H2 n2 := hy
 rcases z5z hy0 hy' with ⟨h1, h2, hany⟩ | ⟨k, o', _, hb, hbn, h2, h1, hx2⟩
 ·subst h1; subst h2
  exact ⟨st.H, st.nx, hy', hx⟩
 ·subst h1; subst h2
  refine ⟨_, _, hy', ?_⟩
  have hx' : z0r P own ops x (st.withH st.H st.nx) dx st.H st.nx := hx
  exact zcn hx0 (fun id hid => by unfold z1f; rw [if_neg (by omega)]) hx'
def zv3 (own : List Nat) (x y : Oper) : Bool :=
 match zy2 own x, zy2 own y with
 | some a, some b => a != b
 | _, _ => false
theorem zpu {own : List Nat} {ops : Array Oper} {x y : Oper} {st : St} {dx dy : D} {H1 H2 : HM} {n1 n2 : Nat} (ha : zv3 own x y = true) (hx : z0r P own ops x st dx H1 n1) (hy : z0r P own ops y (st.withH H1 n1) dy H2 n2) :
  ∃ H3 n3, z0r P own ops y st dy H3 n3 /\ z0r P own ops x (st.withH H3 n3) dx H2 n2 := by
 unfold zv3 at ha
 split at ha
 ·rename_i a b ea eb
  rw [bne_iff_ne] at ha
  rcases zer ea hx with ⟨rfl, rfl, hany⟩ | ⟨i, hi, rfl, h1, hx2⟩
  ·exact ⟨H2, n2, hy, hany H2 n2⟩
  ·rcases zer eb hy with ⟨rfl, rfl, hany2⟩ | ⟨j, hj, rfl, h2, hy2⟩
   ·exact ⟨st.H, st.nx, hany2 st.H st.nx, by
     have := hx2 st.H st.nx (Nat.le_refl _) rfl
     have e : (fun j => if j = i then H2 i else st.H j) = H2 := by
      funext j
      by_cases hj : j = i
      ·rw [if_pos hj, hj]
      ·rw [if_neg hj, h1 j hj]
     rw [e] at this; exact this⟩
   ·have hne : i ≠ j := by omega
    refine ⟨fun k => if k = j then H2 j else st.H k, st.nx, hy2 st.H st.nx (Nat.le_refl _) (h1 j fun e => hne e.symm).symm, ?_⟩
    have := hx2 (fun k => if k = j then H2 j else st.H k) st.nx (Nat.le_refl _) (by rw [if_neg hne])
    have e : (fun k => if k = i then H1 i else if k = j then H2 j else st.H k) = H2 := by
     funext k
     by_cases h3 : k = i
     ·rw [if_pos h3, h3]; exact (h2 i hne).symm
     ·rw [if_neg h3]
      by_cases h4 : k = j
      ·rw [if_pos h4, h4]
      ·rw [if_neg h4, h2 k h4]; exact (h1 k h3).symm
    rw [e] at this; exact this
 ·cases ha
def zb3 (own : List Nat) (ops : Array Oper) (x y : Oper) : Bool :=
 x.apart ops y && (cls own x == 0 || cls own y == 0 || (cls own x == 1 && cls own y == 1) || (z72 own x && zeq own y) || (zeq own x && z72 own y) || ((z72 own x || zk3 own x || zuz own x) && newB own y) || (zb0 own x && zk5 own y) || (zk5 own x && zb0 own y) || zv3 own x y || (zd1 own x && newW own y) || (newW own x && zd1 own y) || (zd1 own x && zb2 own y) || (zb2 own x && zd1 own y))

theorem swap {own : List Nat} {ops : Array Oper} {x y : Oper} {st : St} {dx dy : D} {H1 H2 : HM} {n1 n2 : Nat} (hp : zb3 own ops x y = true)
  (hx : z0r P own ops x st dx H1 n1) (hy : z0r P own ops y (st.next x dx H1 n1) dy H2 n2) :
  ∃ H3 n3, z0r P own ops y st dy H3 n3 /\ z0r P own ops x (st.next y dy H3 n3) dx H2 n2 /\ (st.next x dx H1 n1).next y dy H2 n2 = (st.next y dy H3 n3).next x dx H2 n2 := by
 simp only [zb3, Bool.and_eq_true, Bool.or_eq_true, beq_iff_eq] at hp
 obtain ⟨hap, hc⟩ := hp
 obtain ⟨ha1, ha2, ha3⟩ := Oper.apart_spec hap
 have ty : ∀ t ∈ y.looksAt ops, (st.next x dx H1 n1).t t = st.t t := fun t ht => z9f (fun e => ha1 t e ht)
 have tx : ∀ H n t, t ∈ x.looksAt ops -> st.t t = (st.next y dy H n).t t := fun H n t ht => (z9f (fun e => ha3 t e ht)).symm
 have hcomm := fun H3 n3 => zk1 (st := st) (x := x) (y := y) (dx := dx) (dy := dy) (H1 := H1) (H2 := H3) (H3 := H2) (n1 := n1) (n2 := n3) (n3 := n2) ha2
 rcases hc with (((((((((((hc | hc) | ⟨hc1, hc2⟩) | ⟨hl, O⟩) | ⟨O, hl⟩) | ⟨hl, O⟩) | ⟨hl, O⟩) | ⟨O, hl⟩) | hl) | ⟨hl, O⟩) | ⟨O, hl⟩) | ⟨hl, O⟩) | ⟨O, hl⟩
 ·-- x looks at nothing and changes nothing
  obtain ⟨rfl, rfl, hany⟩ := zgf hc hx
  refine ⟨H2, n2, z0j ty (z27 ..) (z1g ..) hy, ?_, hcomm _ _⟩
  exact z0j (st := st.withH H2 n2) (fun t ht => tx _ _ t ht) (z27 ..).symm (z1g ..).symm (hany H2 n2)
 ·obtain ⟨h1, h2, hany⟩ := zgf hc hy
  rw [z27] at h1; rw [z1g] at h2
  subst h1; subst h2
  have hy' := hany st.H st.nx
  refine ⟨st.H, st.nx, z0j (st := (st.next x dx H2 n2).withH st.H st.nx) ty rfl rfl hy', ?_, hcomm _ _⟩
  exact z0j (fun t ht => tx _ _ t ht) (z27 ..).symm (z1g ..).symm hx
 ·obtain ⟨rfl, rfl⟩ := z2u (by omega) hx
  obtain ⟨h1, h2⟩ := z2u (by omega) hy
  rw [z27] at h1; rw [z1g] at h2
  subst h1; subst h2
  refine ⟨st.H, st.nx, z0j ty (z27 ..) (z1g ..) hy, ?_, hcomm _ _⟩
  exact z0j (fun t ht => tx _ _ t ht) (z27 ..).symm (z1g ..).symm hx
 ·-- x looks into boxes, y leaves them
  obtain ⟨rfl, rfl⟩ := z2u (by rw [z73 hl]; omega) hx
  have hy' : z0r P own ops y st dy H2 n2 := z0j ty (z27 ..) (z1g ..) hy
  have hs := zck O hy'
  refine ⟨H2, n2, hy', ?_, hcomm _ _⟩
  exact z0j (st := st.withH H2 n2) (fun t ht => tx _ _ t ht) (z27 ..).symm (z1g ..).symm ((z6h hl hs).1 hx)
 ·have hs := zck O hx
  obtain ⟨h1, h2⟩ := z2u (by rw [z73 hl]; omega) hy
  rw [z27] at h1; rw [z1g] at h2
  subst h1; subst h2
  have hy' : z0r P own ops y (st.withH H2 n2) dy H2 n2 := z0j ty (z27 ..) (z1g ..) hy
  refine ⟨st.H, st.nx, (z6h hl hs).2 hy', ?_, hcomm _ _⟩
  exact z0j (fun t ht => tx _ _ t ht) (z27 ..).symm (z1g ..).symm hx

 ·obtain ⟨rfl, rfl⟩ := z2u (by rcases hl with (hl | hl) | hl; (· rw [z73 hl]; omega); (· rw [zpr hl]; omega); (· rw [zv0 hl]; omega)) hx
  have hy' : z0r P own ops y st dy H2 n2 := z0j ty (z27 ..) (z1g ..) hy
  have hs := zpq O hy'
  refine ⟨H2, n2, hy', ?_, hcomm _ _⟩
  refine z0j (st := st.withH H2 n2) (fun t ht => tx _ _ t ht) (z27 ..).symm (z1g ..).symm ?_
  rcases hl with (hl | hl) | hl
  ·exact zk2 hl hs hx
  ·exact zk4 hl hs hx
  ·exact zm0 hl hs hx

 ·obtain ⟨rfl, rfl⟩ := z2u (by rw [zgi hl]; omega) hx
  have hy' : z0r P own ops y st dy H2 n2 := z0j ty (z27 ..) (z1g ..) hy
  have hs := zcm O hy'
  refine ⟨H2, n2, hy', ?_, hcomm _ _⟩
  exact z0j (st := st.withH H2 n2) (fun t ht => tx _ _ t ht) (z27 ..).symm (z1g ..).symm ((zcl hl hs).1 hx)
 ·have hs := zcm O hx
  obtain ⟨h1, h2⟩ := z2u (by rw [zgi hl]; omega) hy
  rw [z27] at h1; rw [z1g] at h2
  subst h1; subst h2
  have hy' : z0r P own ops y (st.withH H2 n2) dy H2 n2 := z0j ty (z27 ..) (z1g ..) hy
  refine ⟨st.H, st.nx, (zcl hl hs).2 hy', ?_, hcomm _ _⟩
  exact z0j (fun t ht => tx _ _ t ht) (z27 ..).symm (z1g ..).symm hx
 ·have hy' : z0r P own ops y (st.withH H1 n1) dy H2 n2 := z0j ty (z27 ..) (z1g ..) hy
  obtain ⟨H3, n3, g1, g2⟩ := zpu hl hx hy'
  exact ⟨H3, n3, g1, z0j (st := st.withH H3 n3) (fun t ht => tx _ _ t ht) (z27 ..).symm (z1g ..).symm g2, hcomm _ _⟩
 ·have hy' : z0r P own ops y (st.withH H1 n1) dy H2 n2 := z0j ty (z27 ..) (z1g ..) hy
  obtain ⟨H3, n3, g1, g2⟩ := swap_tn hl O hx hy'
  exact ⟨H3, n3, g1, z0j (st := st.withH H3 n3) (fun t ht => tx _ _ t ht) (z27 ..).symm (z1g ..).symm g2, hcomm _ _⟩
 ·have hy' : z0r P own ops y (st.withH H1 n1) dy H2 n2 := z0j ty (z27 ..) (z1g ..) hy
  obtain ⟨H3, n3, g1, g2⟩ := swap_nt O hl hx hy'
  exact ⟨H3, n3, g1, z0j (st := st.withH H3 n3) (fun t ht => tx _ _ t ht) (z27 ..).symm (z1g ..).symm g2, hcomm _ _⟩
 ·have hy' : z0r P own ops y (st.withH H1 n1) dy H2 n2 := z0j ty (z27 ..) (z1g ..) hy
  obtain ⟨H3, n3, g1, g2⟩ := swap_ta hl O hx hy'
  exact ⟨H3, n3, g1, z0j (st := st.withH H3 n3) (fun t ht => tx _ _ t ht) (z27 ..).symm (z1g ..).symm g2, hcomm _ _⟩
 ·have hy' : z0r P own ops y (st.withH H1 n1) dy H2 n2 := z0j ty (z27 ..) (z1g ..) hy
  obtain ⟨H3, n3, g1, g2⟩ := swap_at O hl hx hy'
  exact ⟨H3, n3, g1, z0j (st := st.withH H3 n3) (fun t ht => tx _ _ t ht) (z27 ..).symm (z1g ..).symm g2, hcomm _ _⟩

def z7r (P : Program) (own : List Nat) (ops : Array Oper) (K : St -> Prop) : List Nat -> St -> Prop
 | [], st => K st
 | i :: rest, st => ∃ o d H nx, ops[i]? = some o /\ z0r P own ops o st d H nx /\ z7r P own ops K rest (st.next o d H nx)

theorem zzh {own : List Nat} {ops : Array Oper} {K : St -> Prop} {i : Nat} {oi : Oper} (hi : ops[i]? = some oi) : ∀ (r1 r2 : List Nat) (st : St),
  (∀ j ∈ r1, ∀ oj, ops[j]? = some oj -> zb3 own ops oj oi = true) -> z7r P own ops K (r1 ++ i :: r2) st -> z7r P own ops K (i :: (r1 ++ r2)) st
 | [], r2, st, _, h => h
 | j :: r1, r2, st, hp, h => by
  simp only [List.cons_append, z7r] at h
  obtain ⟨oj, dj, Hj, nj, hoj, hsj, h⟩ := h
  have h' := zzh hi r1 r2 _ (fun k O => hp k (List.mem_cons_of_mem _ O)) h
  simp only [z7r] at h'
  obtain ⟨o', di, Hi, ni, hoi, hsi, h'⟩ := h'
  rw [hi] at hoi
  cases hoi
  obtain ⟨H3, n3, h1, h2, h3⟩ := swap (hp j (by simp) oj hoj) hsj hsi
  simp only [List.cons_append, z7r]
  exact ⟨oi, di, H3, n3, hi, h1, oj, dj, Hi, ni, hoj, h2, by rw [<- h3]; exact h'⟩

def zpv (ops : Array Oper) : Nat -> Nat -> Nat -> Bool
 | 0, _, _ => false
 | n + 1, j, i => match ops[i]? with
  | some o => o.after.toList.any fun e => Region.binds .any e && (e.on == j || (decide (j < e.on) && zpv ops n j e.on))
  | none => false
def zgl (own : List Nat) (ops : Array Oper) : Bool :=
 (List.range ops.size).all fun i => match ops[i]? with
  | none => true
  | some oi => (oi.after.toList.all fun e => !Region.binds .any e || decide (e.on < i)) &&
   (List.range i).all fun j => match ops[j]? with
    | some oj => zb3 own ops oj oi || zpv ops ops.size j i
    | none => true

def zgm (ops : Array Oper) (listed : Array Bool) : Prop :=
 ∀ k o, ops[k]? = some o -> listed.getD k true = true -> ∀ e ∈ o.after.toList, Region.binds .any e = true -> listed.getD e.on false = true

theorem z8r {ops : Array Oper} {listed : Array Bool} (hsz : listed.size = ops.size) (hc : zgm ops listed) : ∀ (n j i : Nat), zpv ops n j i = true ->
  (∀ o, ops[i]? = some o -> ∀ e ∈ o.after.toList, Region.binds .any e = true -> listed.getD e.on false = true) -> listed.getD j false = true
 | 0, j, i, h, _ => by cases h
 | n + 1, j, i, h, hi => by
  simp only [zpv] at h
  split at h
  ·rename_i o ho
   obtain ⟨e, he, hb⟩ := List.any_eq_true.1 h
   simp only [Bool.and_eq_true, Bool.or_eq_true, beq_iff_eq, decide_eq_true_eq] at hb
   obtain ⟨hb1, hb2⟩ := hb
   have hl := hi o ho e he hb1
   rcases hb2 with rfl | ⟨_, hr⟩
   ·exact hl
   ·refine z8r hsz hc n j e.on hr fun o' ho' => hc e.on o' ho' ?_
    have hlt : e.on < ops.size := (Array.getElem?_eq_some_iff.1 ho').1
    simp only [Array.getD_eq_getD_getElem?] at hl ⊢
    rw [Array.getElem?_eq_getElem (by omega)] at hl ⊢
    simpa using hl
  ·cases h

def rem (ops : Array Oper) (listed : Array Bool) : List Nat := (List.range ops.size).filter fun i => !listed.getD i true

theorem z8s {p : Nat -> Bool} : ∀ (l : List Nat) (i : Nat), l.Pairwise (· < ·) -> i ∈ l -> p i = true -> ∃ r1 r2, l.filter p = r1 ++ i :: r2 /\ l.filter (fun k => p k && k != i) = r1 ++ r2 /\ ∀ j ∈ r1, j < i /\ p j = true
 | [], i, _, hi, _ => by cases hi
 | a :: l, i, hs, hi, hp => by
  have hs' := List.pairwise_cons.1 hs
  rcases List.mem_cons.1 hi with rfl | hi
  ·refine ⟨[], l.filter p, by simp [hp], ?_, by simp⟩
   simp only [List.filter_cons, hp, bne_self_eq_false, Bool.and_false, Bool.false_eq_true, if_false, List.nil_append]
   refine List.filter_congr fun k O => ?_
   have : k ≠ i := by have := hs'.1 k O; omega
   simp [this]
  ·obtain ⟨r1, r2, h1, h2, h3⟩ := z8s l i hs'.2 hi hp
   have hai : a < i := hs'.1 i hi
   have hne : (a != i) = true := by simp; omega
   by_cases hpa : p a = true
   ·refine ⟨a :: r1, r2, by simp [hpa, h1], by simp [hpa, hne, h2], fun j hj => ?_⟩
    rcases List.mem_cons.1 hj with rfl | hj
    ·exact ⟨hai, hpa⟩
    ·exact h3 j hj
   ·refine ⟨r1, r2, by simp [hpa, h1], by simp [hpa, h2], h3⟩

theorem z2z (l : Array Bool) (i k : Nat) : (l.setIfInBounds i true).getD k true = (l.getD k true || k == i) := by
 simp only [Array.getD_eq_getD_getElem?, Array.getElem?_setIfInBounds]
 by_cases h : i = k
 ·subst h
  by_cases h2 : i < l.size <;> simp [h2]
 ·have : (k == i) = false := by simp; omega
  simp [h, this]
theorem zb4 (l : Array Bool) (i k : Nat) : l.getD k false = true -> (l.setIfInBounds i true).getD k false = true := by
 simp only [Array.getD_eq_getD_getElem?, Array.getElem?_setIfInBounds]
 by_cases h : i = k
 ·subst h
  by_cases h2 : i < l.size <;> simp [h2]
 ·simp [h]

theorem zm3 {own : List Nat} {ops : Array Oper} {o : Oper} {st : St} {d : D} {H : HM} {nx : Nat} (hg : z84 ops st o = some true) (hs : z0r P own ops o st d H nx) : opW P own o st (fun st' => st' = st.next o d H nx) := by
 unfold z0r at hs
 rcases hs with ⟨_, hs⟩ | ⟨hg2, _⟩
 ·rcases hs with ⟨f, args, tys, g, cap, hop, hf, ⟨_, _, hrc, rfl, rfl⟩ | ⟨_, hrc, rfl, rfl⟩ | ⟨_, _, hac, _⟩⟩ | hs
  ·unfold opW
   rw [hop]
   simp only [hf]
   exact AC.mono hrc.1 fun r H nx ⟨h1, h2, h3⟩ => by subst h1; subst h2; subst h3; rfl
  ·unfold opW
   rw [hop]
   simp only [hf]
   exact AC.mono (hrc _ _) fun r H nx ⟨h1, h2, h3⟩ => by subst h1; subst h2; subst h3; rfl
  ·unfold opW
   rw [hop]
   simp only [hf]
   exact AC.mono hac fun r H nx ⟨h1, h2, h3⟩ => by subst h1; subst h2; subst h3; rfl
  ·obtain ⟨hs, _⟩ := hs
   unfold opW
   split
   ·rename_i f args tys hop
    unfold opR at hs
    rw [hop] at hs
    cases hs
   ·rw [hs]; rfl
 ·rw [hg] at hg2; cases hg2

theorem z7s {N : Nat} {own : List Nat} {ops : Array Oper} {Q : Exit -> Act -> World -> Prop} {i : Nat} {o : Oper} {st : St} {s : RS} {a : Act} {w : World} {d : D} {H : HM} {nx : Nat} {R : Act -> World -> Prop}
  (ho : ops[i]? = some o) (hdo : za4 N o = true) (hf : Fr P N st s a w) (hstep : z0r P own ops o st d H nx)
  (hR : ∀ s' a' w', Fr P N (st.next o d H nx) s' a' w' -> Step s w s' w' -> R a' w') : wpOp P ops Q i R a w := by
 unfold wpOp
 rw [ho]
 simp only
 have hstep' := hstep
 unfold z0r at hstep'
 rcases hstep' with ⟨hg, _⟩ | ⟨hg, rfl, rfl, rfl⟩
 ·rw [if_pos (z7p hf hg)]
  refine .inl (zjy hf hdo (zm3 hg hstep) fun st' s' a' w' hst hf' hs' => ?_)
  subst hst
  exact hR s' a' w' hf' hs'
 ·rw [if_neg (by rw [z7p hf hg]; simp)]
  exact hR s _ w (hf.put0 hdo zjx) (Step.refl s w)
theorem z3w {own : List Nat} {ops : Array Oper} {K : St -> Prop} : ∀ (l1 l2 : List Nat) (st : St), z7r P own ops K (l1 ++ l2) st = z7r P own ops (z7r P own ops K l2) l1 st
 | [], l2, st => rfl
 | i :: l1, l2, st => by
  simp only [List.cons_append, z7r, z3w l1 l2]
theorem z74 {own : List Nat} {ops : Array Oper} {K K' : St -> Prop} (h : ∀ st, K st -> K' st) : ∀ (l : List Nat) (st : St), z7r P own ops K l st -> z7r P own ops K' l st
 | [], st, O => h st O
 | i :: l, st, ⟨o, d, H, nx, h1, h2, h3⟩ => ⟨o, d, H, nx, h1, h2, z74 h l _ h3⟩
def zy3 (o : Oper) : Bool := match o.op with | .call { callee := .value _, .. } => true | _ => false
theorem zv4 {own : List Nat} {ops : Array Oper} {o : Oper} {st : St} {d d' : D} {H H' : HM} {n n' : Nat} (hc : zy3 o = false) (h : z0r P own ops o st d H n) (h' : z0r P own ops o st d' H' n') : d = d' /\ H = H' /\ n = n' := by
 unfold z0r at h h'
 have key : ∀ {p : Prop} {f args tys g cap}, (o.op = .call { callee := .value f, args := args, argTypes := tys } /\ st.ev f = .fn g cap /\ p) -> False := by
  intro p f args tys g cap ⟨e, _⟩
  unfold zy3 at hc
  rw [e] at hc
  cases hc
 rcases h with ⟨hg, ⟨f, args, tys, g, cap, h1⟩ | ⟨h1, _⟩⟩ | ⟨hg, rfl, rfl, rfl⟩
 ·exact (key h1).elim
 ·rcases h' with ⟨hg', ⟨f, args, tys, g, cap, h2⟩ | ⟨h2, _⟩⟩ | ⟨hg', _⟩
  ·exact (key h2).elim
  ·rw [h1] at h2; cases h2; exact ⟨rfl, rfl, rfl⟩
  ·rw [hg] at hg'; cases hg'
 ·rcases h' with ⟨hg', _⟩ | ⟨hg', rfl, rfl, rfl⟩
  ·rw [hg] at hg'; cases hg'
  ·exact ⟨rfl, rfl, rfl⟩
def forkK (P : Program) (own : List Nat) (ops : Array Oper) (K : St -> Prop) (a : Nat) (p : List Nat) (st : St) : Prop := z7r P own ops K (a :: (a + 1) :: p) st /\ z7r P own ops K ((a + 1) :: a :: p) st
def zby (own : List Nat) (ops : Array Oper) (a : Nat) : Bool :=
 (List.range ops.size).all fun i => match ops[i]? with
  | none => true
  | some oi => (oi.after.toList.all fun e => !Region.binds .any e || decide (e.on < i)) && (decide (i <= a + 1) || !zy3 oi) &&
   (List.range i).all fun j => match ops[j]? with
    | some oj => (decide (j = a) && decide (i = a + 1)) || (zb3 own ops oj oi || zpv ops ops.size j i)
    | none => true
theorem zk8 {own : List Nat} {ops : Array Oper} {x : Nat} {listed : Array Bool} (hok : zby own ops x = true) (hsz : listed.size = ops.size) (hr : Region.ready .any ops listed = []) : rem ops listed = [] := by
 cases hrem : rem ops listed with
 | nil => rfl
 | cons i r =>
  exfalso
  have hmem : ∀ k, k ∈ rem ops listed ↔ k < ops.size /\ listed.getD k true = false := by
   intro k; simp only [rem, List.mem_filter, List.mem_range, Bool.not_eq_true']
  have hi := (hmem i).1 (by rw [hrem]; simp)
  have hmin : ∀ k, k < i -> listed.getD k true = true := by
   intro k O
   cases hl : listed.getD k true with
   | true => rfl
   | false =>
    have hk' := (hmem k).2 ⟨by omega, hl⟩
    have hpw : (rem ops listed).Pairwise (· < ·) := List.Pairwise.filter _ List.pairwise_lt_range
    rw [hrem] at hk' hpw
    rcases List.mem_cons.1 hk' with rfl | hk'
    ·omega
    ·have := (List.pairwise_cons.1 hpw).1 k hk'; omega
  have : i ∈ Region.ready .any ops listed := by
   simp only [Region.ready, List.mem_filter, List.mem_range, Bool.and_eq_true, Bool.not_eq_true']
   refine ⟨hi.1, hi.2, ?_⟩
   have hoi := Array.getElem?_eq_getElem hi.1
   rw [hoi]
   simp only [Option.map_some, Option.getD_some, Array.all_eq_true']
   intro e he
   have h1 := List.all_eq_true.1 hok i (by simpa using hi.1)
   rw [hoi] at h1
   simp only [Bool.and_eq_true] at h1
   have h2 := List.all_eq_true.1 h1.1.1 e (by simpa using he)
   simp only [Bool.or_eq_true, Bool.not_eq_true', decide_eq_true_eq] at h2 ⊢
   rcases h2 with h2 | h2
   ·exact .inl h2
   ·refine .inr ?_
    have h3 := hmin e.on h2
    have hlt : e.on < listed.size := by omega
    simp only [Array.getD_eq_getD_getElem?, Array.getElem?_eq_getElem hlt, Option.getD_some] at h3 ⊢
    exact h3
  rw [hr] at this; cases this
theorem zbz {N x : Nat} {own : List Nat} {ops : Array Oper} {K : St -> Prop} {Q : Exit -> Act -> World -> Prop} (hok : zby own ops x = true) (hdst : ∀ (i : Nat) o, ops[i]? = some o -> za4 N o = true) :
  ∀ (fuel : Nat) (listed : Array Bool) (st : St) (s : RS) (a : Act) (w : World), (rem ops listed).length <= fuel -> listed.size = ops.size -> zgm ops listed -> (listed.getD x true = true \/ listed.getD (x + 1) true = true) -> z7r P own ops K (rem ops listed) st -> Fr P N st s a w ->
  (∀ st' s' a' w', K st' -> Fr P N st' s' a' w' -> Step s w s' w' -> Q .normal a' w') -> wpAny P .any ops Q fuel listed a w := by
 have hready : ∀ listed i, i ∈ Region.ready .any ops listed -> i < ops.size /\ listed.getD i true = false /\ ∀ o, ops[i]? = some o -> ∀ e ∈ o.after.toList, Region.binds .any e = true -> listed.getD e.on false = true := by
  intro listed i hi
  simp only [Region.ready, List.mem_filter, List.mem_range, Bool.and_eq_true, Bool.not_eq_true'] at hi
  obtain ⟨h1, h2, h3⟩ := hi
  refine ⟨h1, h2, fun o ho e he hb => ?_⟩
  rw [ho] at h3
  simp only [Option.map_some, Option.getD_some, Array.all_eq_true'] at h3
  have := h3 e (by simpa using he)
  simpa [hb] using this
 have hfirst := fun listed hsz hr => zk8 (listed := listed) hok hsz hr
 intro fuel
 induction fuel with
 | zero =>
  intro listed st s a w hlen _ _ _ hrun hf O
  have h0 : rem ops listed = [] := List.eq_nil_of_length_eq_zero (by omega)
  rw [h0] at hrun
  refine ⟨?_, O st s a w hrun hf (Step.refl s w)⟩
  cases hr : Region.ready .any ops listed with
  | nil => rfl
  | cons i r =>
   have := hready listed i (by rw [hr]; simp)
   have hm : i ∈ rem ops listed := List.mem_filter.2 ⟨by simpa using this.1, by rw [this.2.1]; rfl⟩
   rw [h0] at hm; cases hm
 | succ fuel ih =>
  intro listed st s a w hlen hsz hclosed hx hrun hf O
  refine ⟨fun hr => ?_, fun i hi => ?_⟩
  ·rw [hfirst listed hsz hr] at hrun
   exact O st s a w hrun hf (Step.refl s w)
  ·obtain ⟨h1, h2, h3⟩ := hready listed i hi
   have hoi := Array.getElem?_eq_getElem h1
   obtain ⟨r1, r2, e1, e2, e3⟩ := z8s (p := fun k => !listed.getD k true) (List.range ops.size) i List.pairwise_lt_range (by simpa using h1) (by rw [h2]; rfl)
   have hrem : rem ops listed = r1 ++ i :: r2 := e1
   have hrem' : rem ops (listed.setIfInBounds i true) = r1 ++ r2 := by
    rw [<- e2]
    refine List.filter_congr fun k _ => ?_
    rw [z2z]
    cases listed.getD k true <;> simp [bne]
   rw [hrem] at hrun
   have hpull := zzh hoi r1 r2 st (fun j hj oj hoj => by
    obtain ⟨hji, hjl⟩ := e3 j hj
    have g1 := List.all_eq_true.1 hok i (by simpa using h1)
    rw [hoi] at g1
    simp only [Bool.and_eq_true] at g1
    have g2 := List.all_eq_true.1 g1.2 j (by simpa using hji)
    rw [hoj] at g2
    simp only [Bool.or_eq_true, Bool.and_eq_true, decide_eq_true_eq] at g2
    rcases g2 with ⟨rfl, rfl⟩ | g2 | g2
    ·exfalso
     simp only [Bool.not_eq_true'] at hjl
     rcases hx with h | h
     ·rw [hjl] at h; cases h
     ·rw [h2] at h; cases h
    ·exact g2
    ·exfalso
     have := z8r hsz hclosed _ _ _ g2 h3
     simp only [Bool.not_eq_true'] at hjl
     have hlt : j < listed.size := by omega
     simp only [Array.getD_eq_getD_getElem?, Array.getElem?_eq_getElem hlt, Option.getD_some] at this hjl
     rw [this] at hjl; cases hjl) hrun
   simp only [z7r] at hpull
   obtain ⟨o, d, H, nx, ho, hstep, hrest⟩ := hpull
   have hclosed' : zgm ops (listed.setIfInBounds i true) := by
    intro k ok hk' hl e he hb
    rw [z2z] at hl
    simp only [Bool.or_eq_true, beq_iff_eq] at hl
    rcases hl with hl | rfl
    ·exact zb4 _ _ _ (hclosed k ok hk' hl e he hb)
    ·exact zb4 _ _ _ (h3 ok hk' e he hb)
   have hlen' : (rem ops (listed.setIfInBounds i true)).length <= fuel := by
    rw [hrem'] ; rw [hrem] at hlen; simp only [List.length_append, List.length_cons] at hlen ⊢; omega
   have hx' : (listed.setIfInBounds i true).getD x true = true \/ (listed.setIfInBounds i true).getD (x + 1) true = true := by
    rw [z2z, z2z]
    rcases hx with h | h
    ·exact .inl (by rw [h]; rfl)
    ·exact .inr (by rw [h]; rfl)
   exact z7s ho (hdst i o ho) hf hstep fun s' a' w' hf' hs' => ih _ _ s' a' w' hlen' (by simpa using hsz) hclosed' hx' (by rw [hrem']; exact hrest) hf' fun st2 s2 a2 w2 hK2 hf2 hs2 => O st2 s2 a2 w2 hK2 hf2 (hs'.trans hs2)
def loL (listed : Array Bool) (a : Nat) : List Nat := (List.range a).filter fun i => !listed.getD i true
def hiL (listed : Array Bool) (a n : Nat) : List Nat := (List.range' (a + 2) (n - (a + 2))).filter fun i => !listed.getD i true
theorem zk9 {ops : Array Oper} {listed : Array Bool} {a : Nat} (ha : a + 1 < ops.size) : rem ops listed = loL listed a ++ (([a, a + 1].filter fun i => !listed.getD i true) ++ hiL listed a ops.size) := by
 have h : List.range ops.size = List.range a ++ ([a, a + 1] ++ List.range' (a + 2) (ops.size - (a + 2))) := by
  obtain ⟨m, hm⟩ : ∃ m, ops.size = a + (2 + m) := ⟨ops.size - (a + 2), by omega⟩
  rw [hm, List.range_eq_range', List.range_eq_range', <- List.range'_append_1, <- List.range'_append_1, show a + (2 + m) - (a + 2) = m from by omega]
  simp [List.range']
 unfold rem loL hiL
 rw [h, List.filter_append, List.filter_append]
theorem z5s {listed : Array Bool} {l : List Nat} {i : Nat} (h : i ∉ l) : (l.filter fun k => !(listed.setIfInBounds i true).getD k true) = l.filter fun k => !listed.getD k true := by
 refine List.filter_congr fun k O => ?_
 rw [z2z, beq_false_of_ne (show k ≠ i from fun e => h (by rw [<- e]; exact O)), Bool.or_false]
theorem zc0 {listed : Array Bool} {l : List Nat} {i : Nat} (hs : l.Pairwise (· < ·)) (hi : i ∈ l) (hl : listed.getD i true = false) :
  ∃ r1 r2, (l.filter fun k => !listed.getD k true) = r1 ++ i :: r2 /\ (l.filter fun k => !(listed.setIfInBounds i true).getD k true) = r1 ++ r2 /\ ∀ j ∈ r1, j < i /\ j ∈ l /\ listed.getD j true = false := by
 obtain ⟨r1, r2, e1, e2, e3⟩ := z8s (p := fun k => !listed.getD k true) l i hs hi (by rw [hl]; rfl)
 refine ⟨r1, r2, e1, ?_, fun j hj => ?_⟩
 ·rw [<- e2]
  refine List.filter_congr fun k _ => ?_
  rw [z2z]
  cases listed.getD k true <;> simp [bne]
 ·have hm : j ∈ l.filter fun k => !listed.getD k true := by rw [e1]; exact List.mem_append_left _ hj
  obtain ⟨h1, h2⟩ := List.mem_filter.1 hm
  exact ⟨(e3 j hj).1, h1, by simpa using h2⟩
theorem pullK {own : List Nat} {ops : Array Oper} {K1 K2 : St -> Prop} {i : Nat} {oi : Oper} (hi : ops[i]? = some oi) (r : List Nat) (st : St)
  (hp : ∀ j ∈ r, ∀ oj, ops[j]? = some oj -> zb3 own ops oj oi = true) (O : ∀ st, K1 st -> z7r P own ops K2 [i] st) (h : z7r P own ops K1 r st) : z7r P own ops K2 (i :: r) st := by
 have h1 := z74 O r st h
 rw [<- z3w] at h1
 have := zzh hi r [] st hp h1
 rwa [List.append_nil] at this
theorem zy4 {N a0 : Nat} {own : List Nat} {ops : Array Oper} {K : St -> Prop} {Q : Exit -> Act -> World -> Prop} (hok : zby own ops a0 = true) (ha : a0 + 1 < ops.size) (hdst : ∀ (i : Nat) o, ops[i]? = some o -> za4 N o = true) :
  ∀ (fuel : Nat) (listed : Array Bool) (st : St) (s : RS) (a : Act) (w : World), (rem ops listed).length <= fuel -> listed.size = ops.size -> zgm ops listed -> listed.getD a0 true = false -> listed.getD (a0 + 1) true = false ->
   z7r P own ops (forkK P own ops K a0 (hiL listed a0 ops.size)) (loL listed a0) st -> Fr P N st s a w ->
  (∀ st' s' a' w', K st' -> Fr P N st' s' a' w' -> Step s w s' w' -> Q .normal a' w') -> wpAny P .any ops Q fuel listed a w := by
 have hready : ∀ listed i, i ∈ Region.ready .any ops listed -> i < ops.size /\ listed.getD i true = false /\ ∀ o, ops[i]? = some o -> ∀ e ∈ o.after.toList, Region.binds .any e = true -> listed.getD e.on false = true := by
  intro listed i hi
  simp only [Region.ready, List.mem_filter, List.mem_range, Bool.and_eq_true, Bool.not_eq_true'] at hi
  obtain ⟨h1, h2, h3⟩ := hi
  refine ⟨h1, h2, fun o ho e he hb => ?_⟩
  rw [ho] at h3
  simp only [Option.map_some, Option.getD_some, Array.all_eq_true'] at h3
  have := h3 e (by simpa using he)
  simpa [hb] using this
 intro fuel
 induction fuel with
 | zero =>
  intro listed st s a w hlen _ _ hx hy hrun hf O
  have h0 : rem ops listed = [] := List.eq_nil_of_length_eq_zero (by omega)
  have hm : a0 ∈ rem ops listed := List.mem_filter.2 ⟨by simp; omega, by rw [hx]; rfl⟩
  rw [h0] at hm; cases hm
 | succ fuel ih =>
  intro listed st s a w hlen hsz hclosed hx hy hrun hf O
  refine ⟨fun hr => ?_, fun i hi => ?_⟩
  ·exfalso
   have hm : a0 ∈ rem ops listed := List.mem_filter.2 ⟨by simp; omega, by rw [hx]; rfl⟩
   rw [zk8 hok hsz hr] at hm; cases hm
  ·obtain ⟨h1, h2, h3⟩ := hready listed i hi
   have hoi := Array.getElem?_eq_getElem h1
   have hne : ∀ {j}, listed.getD j true = false -> j < ops.size -> zpv ops ops.size j i = true -> False := fun {j} hjl hj g => by
    have := z8r hsz hclosed _ _ _ g h3
    have hlt : j < listed.size := by omega
    simp only [Array.getD_eq_getD_getElem?, Array.getElem?_eq_getElem hlt, Option.getD_some] at this hjl
    rw [this] at hjl; cases hjl
   have hg1 := List.all_eq_true.1 hok i (by simpa using h1)
   rw [hoi] at hg1
   simp only [Bool.and_eq_true] at hg1
   have hpair : ∀ j, j < i -> ¬ (j = a0 /\ i = a0 + 1) -> listed.getD j true = false -> ∀ oj, ops[j]? = some oj -> zb3 own ops oj ops[i] = true := by
    intro j hji hne2 hjl oj hoj
    have g2 := List.all_eq_true.1 hg1.2 j (by simpa using hji)
    rw [hoj] at g2
    simp only [Bool.or_eq_true, Bool.and_eq_true, decide_eq_true_eq] at g2
    rcases g2 with g2 | g2 | g2
    ·exact (hne2 g2).elim
    ·exact g2
    ·exact (hne hjl (by omega) g2).elim
   have hclosed' : zgm ops (listed.setIfInBounds i true) := by
    intro k ok hk' hl e he hb
    rw [z2z] at hl
    simp only [Bool.or_eq_true, beq_iff_eq] at hl
    rcases hl with hl | rfl
    ·exact zb4 _ _ _ (hclosed k ok hk' hl e he hb)
    ·exact zb4 _ _ _ (h3 ok hk' e he hb)
   have hlen' : (rem ops (listed.setIfInBounds i true)).length <= fuel := by
    obtain ⟨r1, r2, e1, e2, _⟩ := zc0 (l := List.range ops.size) (listed := listed) List.pairwise_lt_range (by simpa using h1) h2
    have e1 : rem ops listed = r1 ++ i :: r2 := e1
    have e2 : rem ops (listed.setIfInBounds i true) = r1 ++ r2 := e2
    rw [e2]; rw [e1] at hlen; simp only [List.length_append, List.length_cons] at hlen ⊢; omega
   have hlo : ∀ j ∈ loL listed a0, j < a0 /\ listed.getD j true = false := fun j hj => by
    obtain ⟨g1, g2⟩ := List.mem_filter.1 hj
    exact ⟨by simpa using g1, by simpa using g2⟩
   by_cases c1 : i < a0
   ·obtain ⟨r1, r2, e1, e2, e3⟩ := zc0 (l := List.range a0) (listed := listed) List.pairwise_lt_range (by simpa using c1) h2
    have e1 : loL listed a0 = r1 ++ i :: r2 := e1
    have e2 : loL (listed.setIfInBounds i true) a0 = r1 ++ r2 := e2
    rw [e1] at hrun
    obtain ⟨o, d, H, nx, ho, hstep, hrest⟩ := zzh hoi r1 r2 st (fun j hj => hpair j (e3 j hj).1 (by omega) (e3 j hj).2.2) hrun
    have hh : hiL (listed.setIfInBounds i true) a0 ops.size = hiL listed a0 ops.size := z5s (by simp; omega)
    exact z7s ho (hdst i o ho) hf hstep fun s' a' w' hf' hs' => ih _ _ s' a' w' hlen' (by simpa using hsz) hclosed' (by rw [z2z, hx, beq_false_of_ne (by omega)]; rfl) (by rw [z2z, hy, beq_false_of_ne (by omega)]; rfl)
     (by rw [hh, e2]; exact hrest) hf' fun st2 s2 a2 w2 hK2 hf2 hs2 => O st2 s2 a2 w2 hK2 hf2 (hs'.trans hs2)
   by_cases c2 : i = a0
   ·have hh : hiL (listed.setIfInBounds i true) a0 ops.size = hiL listed a0 ops.size := z5s (by simp; omega)
    have hl : loL (listed.setIfInBounds i true) a0 = loL listed a0 := z5s (by simp; omega)
    have hrun2 : z7r P own ops K (loL listed a0 ++ i :: (a0 + 1) :: hiL listed a0 ops.size) st := by
     rw [z3w, c2]
     exact z74 (fun _ h => h.1) _ _ hrun
    obtain ⟨o, d, H, nx, ho, hstep, hrest⟩ := zzh hoi _ _ st (fun j hj => hpair j (by have := hlo j hj; omega) (by omega) (hlo j hj).2) hrun2
    have hr : rem ops (listed.setIfInBounds i true) = loL listed a0 ++ (a0 + 1) :: hiL listed a0 ops.size := by
     rw [zk9 ha, hh, hl]
     simp only [List.filter_cons, List.filter_nil, z2z, hx, hy, c2, beq_self_eq_true, Bool.or_true, Bool.not_true]
     rw [beq_false_of_ne (show a0 + 1 ≠ a0 by omega)]
     rfl
    exact z7s ho (hdst i o ho) hf hstep fun s' a' w' hf' hs' => zbz hok hdst _ _ _ s' a' w' hlen' (by simpa using hsz) hclosed' (.inl (by rw [z2z, c2]; simp))
     (by rw [hr]; exact hrest) hf' fun st2 s2 a2 w2 hK2 hf2 hs2 => O st2 s2 a2 w2 hK2 hf2 (hs'.trans hs2)
   by_cases c3 : i = a0 + 1
   ·have hh : hiL (listed.setIfInBounds i true) a0 ops.size = hiL listed a0 ops.size := z5s (by simp; omega)
    have hl : loL (listed.setIfInBounds i true) a0 = loL listed a0 := z5s (by simp; omega)
    have hrun2 : z7r P own ops K (loL listed a0 ++ i :: a0 :: hiL listed a0 ops.size) st := by
     rw [z3w, c3]
     exact z74 (fun _ h => h.2) _ _ hrun
    obtain ⟨o, d, H, nx, ho, hstep, hrest⟩ := zzh hoi _ _ st (fun j hj => hpair j (by have := hlo j hj; omega) (by have := hlo j hj; omega) (hlo j hj).2) hrun2
    have hr : rem ops (listed.setIfInBounds i true) = loL listed a0 ++ a0 :: hiL listed a0 ops.size := by
     rw [zk9 ha, hh, hl]
     simp only [List.filter_cons, List.filter_nil, z2z, hx, hy, c3, beq_self_eq_true, Bool.or_true, Bool.not_true]
     rw [beq_false_of_ne (show a0 ≠ a0 + 1 by omega)]
     rfl
    exact z7s ho (hdst i o ho) hf hstep fun s' a' w' hf' hs' => zbz hok hdst _ _ _ s' a' w' hlen' (by simpa using hsz) hclosed' (.inr (by rw [z2z, c3]; simp))
     (by rw [hr]; exact hrest) hf' fun st2 s2 a2 w2 hK2 hf2 hs2 => O st2 s2 a2 w2 hK2 hf2 (hs'.trans hs2)
   ·have hcall : zy3 ops[i] = false := by
     have := hg1.1.2
     simp only [Bool.or_eq_true, decide_eq_true_eq, Bool.not_eq_true'] at this
     rcases this with g | g
     ·omega
     ·exact g
    obtain ⟨p1, p2, e1, e2, e3⟩ := zc0 (l := List.range' (a0 + 2) (ops.size - (a0 + 2))) (listed := listed) List.pairwise_lt_range' (by simp; omega) h2
    have e1 : hiL listed a0 ops.size = p1 ++ i :: p2 := e1
    have e2 : hiL (listed.setIfInBounds i true) a0 ops.size = p1 ++ p2 := e2
    have hl : loL (listed.setIfInBounds i true) a0 = loL listed a0 := z5s (by simp; omega)
    have hp1 : ∀ j ∈ p1, ∀ oj, ops[j]? = some oj -> zb3 own ops oj ops[i] = true := fun j hj => hpair j (e3 j hj).1 (by omega) (e3 j hj).2.2
    have hpa := hpair a0 (by omega) (by omega) hx
    have hpb := hpair (a0 + 1) (by omega) (by omega) hy
    rw [e1] at hrun
    obtain ⟨o, d, H, nx, ho, hstep, hrest⟩ := pullK (K2 := forkK P own ops K a0 (p1 ++ p2)) hoi _ st (fun j hj => hpair j (by have := hlo j hj; omega) (by have := hlo j hj; omega) (hlo j hj).2) (fun st1 ⟨f1, f2⟩ => by
     have g1 := zzh hoi (a0 :: (a0 + 1) :: p1) p2 st1 (fun j hj => by
      rcases List.mem_cons.1 hj with rfl | hj
      ·exact hpa
      rcases List.mem_cons.1 hj with rfl | hj
      ·exact hpb
      ·exact hp1 j hj) f1
     have g2 := zzh hoi ((a0 + 1) :: a0 :: p1) p2 st1 (fun j hj => by
      rcases List.mem_cons.1 hj with rfl | hj
      ·exact hpb
      rcases List.mem_cons.1 hj with rfl | hj
      ·exact hpa
      ·exact hp1 j hj) f2
     obtain ⟨o, d, H, n, ho, hs, hr⟩ := g1
     obtain ⟨o', d', H', n', ho', hs', hr'⟩ := g2
     rw [hoi] at ho ho'
     cases ho; cases ho'
     obtain ⟨rfl, rfl, rfl⟩ := zv4 hcall hs hs'
     exact ⟨_, d, H, n, hoi, hs, hr, hr'⟩) hrun
    exact z7s ho (hdst i o ho) hf hstep fun s' a' w' hf' hs' => ih _ _ s' a' w' hlen' (by simpa using hsz) hclosed' (by rw [z2z, hx, beq_false_of_ne (by omega)]; rfl) (by rw [z2z, hy, beq_false_of_ne (by omega)]; rfl)
     (by rw [hl, e2]; exact hrest) hf' fun st2 s2 a2 w2 hK2 hf2 hs2 => O st2 s2 a2 w2 hK2 hf2 (hs'.trans hs2)
theorem zy5 {own : List Nat} {ops : Array Oper} (h : zgl own ops = true) : zby own ops ops.size = true := by
 unfold zby
 refine List.all_eq_true.2 fun i hi => ?_
 have g := List.all_eq_true.1 h i hi
 have hi : i < ops.size := by simpa using hi
 rw [Array.getElem?_eq_getElem hi] at g ⊢
 simp only [Bool.and_eq_true] at g ⊢
 refine ⟨⟨g.1, by rw [decide_eq_true (show i <= ops.size + 1 by omega)]; rfl⟩, List.all_eq_true.2 fun j hj => ?_⟩
 have g2 := List.all_eq_true.1 g.2 j hj
 have hj : j < i := by simpa using hj
 rw [Array.getElem?_eq_getElem (show j < ops.size by omega)] at g2 ⊢
 simp only [Bool.or_eq_true] at g2 ⊢
 exact .inr g2

end Go.Proofs.YtppebcifiejplaaGreatDoor.Abs
namespace Go.Proofs.YtppebcifiejplaaGreatDoor.Abs
open Go.RowKit
variable {P : Program}

def opD (P : Program) (own : List Nat) (o : Oper) (st : St) (K : St -> Prop) : Prop :=
 match o.op with
 | .call { callee := .value f, args := args, argTypes := _ } =>
  match st.ev f with
  | .fn g cap => (z0h 5000000 own o.dst = false /\ tcM own o.dst = none /\ ∃ r, RCF P own o.dst g (args.toList.map st.ev ++ cap) st r /\ K (st.put o.dst r)) \/
    (z0h 5000000 own o.dst = true /\ ∃ r, (∀ H nx, RC P g (args.toList.map st.ev ++ cap) H nx r) /\ K (st.put o.dst r)) \/
    (z0h 5000000 own o.dst = false /\ z0h 4000000 own o.dst = true /\ ∃ d H nx, AC P g (args.toList.map st.ev ++ cap) st.H st.nx (fun r' H' nx' => r' = d /\ H' = H /\ nx' = nx) /\ zy1 P own o.dst g (args.toList.map st.ev ++ cap) st.H st.nx st d H nx /\ K ((st.withH H nx).put o.dst d))
  | _ => False
 | _ => match opR P own o st with
  | some (d, H, nx) => if okW own o st = true then K ({ st with H := H, nx := nx }.put o.dst d) else False
  | none => False
def z2s (P : Program) (own : List Nat) (gs : List (Option Nat)) : List Oper -> (St -> Prop) -> St -> Prop
 | [], K, st => K st
 | o :: rest, K, st =>
  match zcj gs st o with
  | some true => opD P own o st (z2s P own gs rest K)
  | some false => z2s P own gs rest K (st.put o.dst (.tup []))
  | none => False

theorem z60 {own : List Nat} {ops : Array Oper} {K : St -> Prop} : ∀ (l : List Oper) (ks : List Nat) (st : St), ks.map (fun k => ops[k]?) = l.map some -> z2s P own (zuu ops) l K st -> z7r P own ops K ks st
 | [], [], st, _, h => h
 | [], _ :: _, st, hl, h => by simp at hl
 | _ :: _, [], st, hl, h => by simp at hl
 | o :: l, k :: ks, st, hl, h => by
  simp only [List.map_cons, List.cons.injEq] at hl
  obtain ⟨ho, hl'⟩ := hl
  simp only [z7r]
  simp only [z2s] at h
  rw [zjz] at h
  split at h
  ·rename_i hg
   unfold opD at h
   split at h
   ·rename_i f args tys hop
    split at h
    ·rename_i g cap hf
     rcases h with ⟨h0, ht, r, hrc, h⟩ | ⟨h0, r, hrc, h⟩ | ⟨h0, hm, d, H, nx, hac, hsb, h⟩
     ·exact ⟨o, r, st.H, st.nx, ho, .inl ⟨hg, .inl ⟨f, args, tys, g, cap, hop, hf, .inl ⟨h0, ht, hrc, rfl, rfl⟩⟩⟩, z60 l ks _ hl' h⟩
     ·exact ⟨o, r, st.H, st.nx, ho, .inl ⟨hg, .inl ⟨f, args, tys, g, cap, hop, hf, .inr (.inl ⟨h0, hrc, rfl, rfl⟩)⟩⟩, z60 l ks _ hl' h⟩
     ·exact ⟨o, d, H, nx, ho, .inl ⟨hg, .inl ⟨f, args, tys, g, cap, hop, hf, .inr (.inr ⟨h0, hm, hac, hsb⟩)⟩⟩, z60 l ks _ hl' h⟩
    ·cases h
   ·split at h
    ·rename_i d H nx hr
     split at h
     ·rename_i hok
      exact ⟨o, d, H, nx, ho, .inl ⟨hg, .inr ⟨hr, hok⟩⟩, z60 l ks _ hl' h⟩
     ·cases h
    ·cases h
  ·rename_i hg
   exact ⟨o, .tup [], st.H, st.nx, ho, .inr ⟨hg, rfl, rfl, rfl⟩, z60 l ks _ hl' h⟩
  ·cases h
theorem zv5 (ops : Array Oper) : (List.range ops.size).map (fun k => ops[k]?) = ops.toList.map some := by
 refine List.ext_getElem (by simp) fun i h1 h2 => ?_
 have hi : i < ops.size := by simpa using h1
 simp [Array.getElem?_eq_getElem hi]
def swap2 : List Oper -> List Oper
 | x :: y :: l => y :: x :: l
 | l => l
theorem zy6 {ops : Array Oper} {a : Nat} (ha : a + 1 < ops.size) : (List.range a).map (fun k => ops[k]?) = (ops.toList.take a).map some /\
  (a :: (a + 1) :: List.range' (a + 2) (ops.size - (a + 2))).map (fun k => ops[k]?) = (ops.toList.drop a).map some /\
  ((a + 1) :: a :: List.range' (a + 2) (ops.size - (a + 2))).map (fun k => ops[k]?) = (swap2 (ops.toList.drop a)).map some := by
 have h := zv5 ops
 have hr : List.range ops.size = List.range a ++ (a :: (a + 1) :: List.range' (a + 2) (ops.size - (a + 2))) := by
  obtain ⟨m, hm⟩ : ∃ m, ops.size = a + (2 + m) := ⟨ops.size - (a + 2), by omega⟩
  rw [hm, List.range_eq_range', List.range_eq_range', <- List.range'_append_1, <- List.range'_append_1, show a + (2 + m) - (a + 2) = m from by omega]
  simp [List.range']
 rw [hr, List.map_append] at h
 have h1 := congrArg (List.take a) h
 have h2 := congrArg (List.drop a) h
 rw [List.take_left' (by simp), <- List.map_take] at h1
 rw [List.drop_left' (by simp), <- List.map_drop] at h2
 refine ⟨h1, h2, ?_⟩
 cases V : ops.toList.drop a with
 | nil => rw [V] at h2; simp at h2
 | cons x l =>
  cases l with
  | nil => rw [V] at h2; simp at h2
  | cons y l =>
   rw [V] at h2
   simp only [List.map_cons, List.cons.injEq] at h2
   simp only [swap2, List.map_cons, List.cons.injEq]
   exact ⟨h2.2.1, h2.1, h2.2.2⟩
def awpR (P : Program) (own : List Nat) (ops : Array Oper) (K : St -> Prop) (st : St) : Prop :=
 (zgl own ops = true /\ z2s P own (zuu ops) ops.toList K st) \/
 ∃ a, zby own ops a = true /\ a + 1 < ops.size /\ z2s P own (zuu ops) (ops.toList.take a) (fun st1 => z2s P own (zuu ops) (ops.toList.drop a) K st1 /\ z2s P own (zuu ops) (swap2 (ops.toList.drop a)) K st1) st

def SealTo (P : Program) (st st' : St) : Prop := ∀ N s a w, Fr P N st s a w -> ∃ s', Fr P N st' s' a w /\ Step s w s' w
theorem SealTo.refl (st : St) : SealTo P st st := fun _ s _ w h => ⟨s, h, Step.refl s w⟩
theorem SealTo.trans {st st' st'' : St} (h : SealTo P st st') (h' : SealTo P st' st'') : SealTo P st st'' := fun N s a w hf => by
 obtain ⟨s1, h1, h2⟩ := h N s a w hf
 obtain ⟨s2, h3, h4⟩ := h' N s1 a w h1
 exact ⟨s2, h3, h2.trans h4⟩
def znr (k : St -> Prop) (Q : Exit -> St -> Prop) : Exit -> St -> Prop
 | .normal, st => k st
 | e, st => Q e st
def zpw (id : Nat) (Q : Exit -> St -> Prop) : Exit -> St -> Prop
 | .exit id', st => if id' = id then Q .normal st else Q (.exit id') st
 | e, st => Q e st
def zy7 (I : Nat -> St -> Prop) (n : Nat) (Q : Exit -> St -> Prop) : Exit -> St -> Prop
 | .normal, st => ∃ m, m < n /\ I m st
 | e, st => Q e st

def awp (P : Program) (own : List Nat) : Code -> (Exit -> St -> Prop) -> St -> Prop
 | .skip, Q, st => Q .normal st
 | .region _ ops draw, Q, st => (draw = true -> awpR P own ops (Q .normal) st) /\ (draw = false -> z2b P own (zuu ops) ops.toList (Q .normal) st)
 | .seq a b, Q, st => awp P own a (znr (fun st => ∃ st', SealTo P st st' /\ awp P own b Q st') Q) st
 | .cond c x y, Q, st => ∃ t, st.ev c = .bool t /\ (t = true -> awp P own x Q st) /\ (t = false -> awp P own y Q st)
 | .block id c, Q, st => awp P own c (zpw id Q) st
 | .loop c, Q, st => ∃ I : Nat -> St -> Prop, (∃ n, I n st) /\ ∀ n st', I n st' -> awp P own c (zy7 I n Q) st'
 | .exit id, Q, st => Q (.exit id) st
 | .ret, Q, st => Q .ret st
 | _, _, _ => False

def z85 (N : Nat) : Code -> Bool
 | .region _ ops _ => ops.toList.all (za4 N)
 | .seq a b => z85 N a && z85 N b
 | .cond _ x y => z85 N x && z85 N y
 | .block _ c => z85 N c
 | .loop c => z85 N c
 | _ => true

theorem zv6 {c : Code} {Q : Exit -> Act -> World -> Prop} (I : Nat -> Act -> World -> Prop) (round : ∀ n a w, I n a w -> c.wp P (Exit.then (fun a' w' => ∃ m, m < n /\ I m a' w') Q) a w) :
  ∀ n a w, I n a w -> (Code.loop c).wp P Q a w := by
 intro n a w h0 b k cs
 have key : ∀ n a w, I n a w -> ∃ e a' w', Q e a' w' /\ Arrives P (lone (b.at a (.code c :: .inLoop c :: k)) cs w) b k cs e a' w' := by
  intro n
  induction n using Nat.strongRecOn with
  | _ n ih =>
   intro a w hI
   obtain ⟨e, a₁, w₁, hq, harr⟩ := round n a w hI b (.inLoop c :: k) cs
   cases e with
   | normal =>
    obtain ⟨m, hm, hI₁⟩ := hq
    obtain ⟨e₂, a₂, w₂, hq₂, harr₂⟩ := ih m hm a₁ w₁ hI₁
    exact ⟨e₂, a₂, w₂, hq₂, .of_steps (Steps.trans harr (.one step_inLoop)) harr₂⟩
   | exit id => exact ⟨_, a₁, w₁, hq, .pass (x := .inLoop c) rfl (fun _ _ => .inl (by simp)) harr⟩
   | goto l => exact ⟨_, a₁, w₁, hq, .pass (x := .inLoop c) rfl (fun _ _ => .inl (by simp)) harr⟩
   | ret => exact ⟨_, a₁, w₁, hq, .pass (x := .inLoop c) rfl (fun _ _ => .inl (by simp)) harr⟩
   | panic ch => exact ⟨_, a₁, w₁, hq, .pass (x := .inLoop c) rfl (fun _ _ => .inl (by simp)) harr⟩
   | outgrown => exact ⟨_, a₁, w₁, hq, .pass (x := .inLoop c) rfl (fun _ _ => .inl (by simp)) harr⟩
 obtain ⟨e, a', w', hq, harr⟩ := key n a w h0
 exact ⟨e, a', w', hq, .of_steps (.one step_loop) harr⟩

def lift (P : Program) (N : Nat) (s0 : RS) (w0 : World) (Q : Exit -> St -> Prop) : Exit -> Act -> World -> Prop :=
 fun e a w => ∃ st s, Q e st /\ Fr P N st s a w /\ Step s0 w0 s w

theorem z50 {N : Nat} {own : List Nat} (hm : P.follows .mixedOrders = true) {s0 : RS} {w0 : World} : ∀ (c : Code) (Q : Exit -> St -> Prop) (st : St) (s : RS) (a : Act) (w : World), z85 N c = true -> awp P own c Q st ->
  Fr P N st s a w -> Step s0 w0 s w -> c.wp P (lift P N s0 w0 Q) a w
 | .skip, Q, st, s, a, w, _, h, hf, hs => wp_skip ⟨st, s, h, hf, hs⟩
 | .region id ops draw, Q, st, s, a, w, hok, h, hf, hs => by
  simp only [z85] at hok
  have hdst : ∀ o ∈ ops.toList, za4 N o = true := fun o ho => List.all_eq_true.1 hok o ho
  cases draw with
  | false =>
   refine wp_region_list (zbx (Q := lift P N s0 w0 Q) ops.toList st s a w hdst (h.2 rfl) hf fun st' s' a' w' J hf' hs' => ⟨st', s', J, hf', hs.trans hs'⟩)
  | true =>
   obtain ⟨hds, hdr⟩ := zf8 (w' := { w with drawn := w.drawn + 1 }) hf.heap rfl rfl rfl rfl
   have hf' : Fr P N st s a { w with drawn := w.drawn + 1 } := ⟨hf.H, hf.nx, hf.size, hf.defers, hf.tmps, hdr⟩
   have hdst2 : ∀ (i : Nat) o, ops[i]? = some o -> za4 N o = true := fun i o ho => hdst o (by
    obtain ⟨h1, h2⟩ := (Array.getElem?_eq_some_iff.1 ho)
    rw [<- h2]; exact (Array.mem_toList_iff.2 (Array.getElem_mem h1)))
   have hlen : (rem ops (Array.replicate ops.size false)).length <= ops.size := by
    have : (rem ops (Array.replicate ops.size false)).length <= (List.range ops.size).length := List.length_filter_le _ _
    simpa using this
   have hcl : zgm ops (Array.replicate ops.size false) := by
    intro k o ho hl
    have hlt := (Array.getElem?_eq_some_iff.1 ho).1
    simp [Array.getD_eq_getD_getElem?, hlt] at hl
   have hun : ∀ k, k < ops.size -> (Array.replicate ops.size false).getD k true = false := fun k hlt => by simp [Array.getD_eq_getD_getElem?, hlt]
   refine wp_region_any hm ?_
   rcases h.1 rfl with ⟨hdo, h⟩ | ⟨x, hdo, hx, h⟩
   ·refine zbz (Q := lift P N s0 w0 Q) (zy5 hdo) hdst2 ops.size _ st s a _ hlen (by simp) hcl (.inl (by simp [Array.getD_eq_getD_getElem?])) ?_ hf' fun st' s' a' w' J hf2 hs2 => ⟨st', s', J, hf2, hs.trans (hds.trans hs2)⟩
    have hrem : rem ops (Array.replicate ops.size false) = List.range ops.size := by
     refine List.filter_eq_self.2 fun k O => ?_
     rw [hun k (by simpa using O)]; rfl
    rw [hrem]
    exact z60 ops.toList _ st (zv5 ops) h
   ·obtain ⟨m1, m2, m3⟩ := zy6 hx
    refine zy4 (Q := lift P N s0 w0 Q) hdo hx hdst2 ops.size _ st s a _ hlen (by simp) hcl (hun _ (by omega)) (hun _ hx) ?_ hf' fun st' s' a' w' J hf2 hs2 => ⟨st', s', J, hf2, hs.trans (hds.trans hs2)⟩
    have hlo : loL (Array.replicate ops.size false) x = List.range x := List.filter_eq_self.2 fun k O => by
     rw [hun k (by have : k < x := (by simpa using O); omega)]; rfl
    have hhi : hiL (Array.replicate ops.size false) x ops.size = List.range' (x + 2) (ops.size - (x + 2)) := List.filter_eq_self.2 fun k O => by
     rw [hun k (by have := List.mem_range'_1.1 O; omega)]; rfl
    rw [hlo, hhi]
    exact z74 (fun st1 h1 => ⟨z60 _ _ st1 m2 h1.1, z60 _ _ st1 m3 h1.2⟩) _ _ (z60 _ _ st m1 h)
 | .seq x y, Q, st, s, a, w, hok, h, hf, hs => by
  simp only [z85, Bool.and_eq_true] at hok
  refine wp_seq (wp_mono (z50 hm x _ st s a w hok.1 h hf hs) ?_)
  rintro e a' w' ⟨st', s', hq, hf', hs'⟩
  cases e with
  | normal =>
   obtain ⟨st2, hseal, hq⟩ := hq
   obtain ⟨s2, hf2, hs2⟩ := hseal N s' a' w' hf'
   exact z50 hm y Q st2 s2 a' w' hok.2 hq hf2 (hs'.trans hs2)
  | exit id => exact ⟨st', s', hq, hf', hs'⟩
  | goto l => exact ⟨st', s', hq, hf', hs'⟩
  | ret => exact ⟨st', s', hq, hf', hs'⟩
  | panic ch => exact ⟨st', s', hq, hf', hs'⟩
  | outgrown => exact ⟨st', s', hq, hf', hs'⟩
 | .cond c x y, Q, st, s, a, w, hok, h, hf, hs => by
  simp only [z85, Bool.and_eq_true] at hok
  obtain ⟨t, ht, h1, h2⟩ := h
  have hv := hf.ev c
  rw [ht] at hv
  simp only [rel] at hv
  exact wp_cond_split hv (fun e => z50 hm x Q st s a w hok.1 (h1 e) hf hs) (fun e => z50 hm y Q st s a w hok.2 (h2 e) hf hs)
 | .block id c, Q, st, s, a, w, hok, h, hf, hs => by
  refine wp_block (wp_mono (z50 hm c _ st s a w hok h hf hs) ?_)
  rintro e a' w' ⟨st', s', hq, hf', hs'⟩
  cases e with
  | exit id' =>
   simp only [zpw] at hq
   simp only [Exit.inBlock]
   split
   ·rename_i he; rw [if_pos he] at hq; exact ⟨st', s', hq, hf', hs'⟩
   ·rename_i he; rw [if_neg he] at hq; exact ⟨st', s', hq, hf', hs'⟩
  | normal => exact ⟨st', s', hq, hf', hs'⟩
  | goto l => exact ⟨st', s', hq, hf', hs'⟩
  | ret => exact ⟨st', s', hq, hf', hs'⟩
  | panic ch => exact ⟨st', s', hq, hf', hs'⟩
  | outgrown => exact ⟨st', s', hq, hf', hs'⟩
 | .loop c, Q, st, s, a, w, hok, h, hf, hs => by
  obtain ⟨I, ⟨n, hn⟩, hround⟩ := h
  refine zv6 (fun n a w => ∃ st s, I n st /\ Fr P N st s a w /\ Step s0 w0 s w) ?_ n a w ⟨st, s, hn, hf, hs⟩
  rintro n a w ⟨st, s, hI, hf, hs⟩
  refine wp_mono (z50 hm c _ st s a w hok (hround n st hI) hf hs) ?_
  rintro e a' w' ⟨st', s', hq, hf', hs'⟩
  cases e with
  | normal =>
   obtain ⟨m, hm', hI'⟩ := hq
   exact ⟨m, hm', st', s', hI', hf', hs'⟩
  | exit id => exact ⟨st', s', hq, hf', hs'⟩
  | goto l => exact ⟨st', s', hq, hf', hs'⟩
  | ret => exact ⟨st', s', hq, hf', hs'⟩
  | panic ch => exact ⟨st', s', hq, hf', hs'⟩
  | outgrown => exact ⟨st', s', hq, hf', hs'⟩
 | .exit id, Q, st, s, a, w, _, h, hf, hs => wp_exit ⟨st, s, h, hf, hs⟩
 | .ret, Q, st, s, a, w, _, h, hf, hs => wp_ret ⟨st, s, h, hf, hs⟩
 | .rangeFunc .., _, _, _, _, _, _, h, _, _ => h.elim
 | .scope _, _, _, _, _, _, _, h, _, _ => h.elim
 | .label _, _, _, _, _, _, _, h, _, _ => h.elim
 | .goto _, _, _, _, _, _, _, h, _, _ => h.elim
 | .refuse _, _, _, _, _, _, _, h, _, _ => h.elim

def valR (P : Program) (st : St) : ResultVar -> Option D
 | .tmp t => some (st.t t)
 | .cell a ty => z3p P st.H ty (st.t a)
def allR (P : Program) (st : St) : List ResultVar -> Option (List D)
 | [] => some []
 | r :: rs => match valR P st r, allR P st rs with
  | some d, some ds => some (d :: ds)
  | _, _ => none
def resD (P : Program) (st : St) (rs : List ResultVar) : Option D :=
 match allR P st rs with
 | some [d] => some d
 | some ds => some (.tup ds)
 | none => none
def retQ (P : Program) (rs : List ResultVar) (K : D -> HM -> Nat -> Prop) : Exit -> St -> Prop
 | .normal, st | .ret, st => ∃ r, resD P st rs = some r /\ K r st.H st.nx
 | _, _ => False

theorem zpx {s : RS} {w : World} {p d : D} {H : HM} {t : TypeId} {v u : Value} (hl : z3p P H t p = some d) (hp : rel s p v) (hr : (Instr.loadAt t v).run P w = .ok u w) : (do loadVar t (<- asAddr v) : Sem Value).run P w = .ok u w := by
 have hv : ∃ a, v = .pointer (some a) := by
  unfold z3p at hl
  split at hl
  ·simp only [rel] at hp; exact hp.2.1
  ·simp only [rel] at hp; exact hp.2.1
  ·simp only [rel] at hp; obtain ⟨a, u, h, _⟩ := hp; exact ⟨a, h⟩
  ·cases hl
 obtain ⟨a, rfl⟩ := hv
 simpa [Instr.loadAt, Instr.sureAddr, asAddr] using hr

def resV (tmps : Array Value) : ResultVar -> Sem Value
 | .tmp t => pure (tmps.getD t undef)
 | .cell a t => do loadVar t (<- asAddr (tmps.getD a undef))
theorem zpy (fn : Func) (tmps : Array Value) : results fn tmps = (do let vs <- fn.results.mapM (resV tmps); pure (if h : vs.size = 1 then vs[0] else .tuple vs)) := by
 unfold results
 congr 2
theorem zco {N : Nat} {st : St} {s : RS} {a : Act} {w : World} (hf : Fr P N st s a w) : ∀ (rs : List ResultVar) (ds : List D), allR P st rs = some ds ->
  ∃ vs, (rs.mapM (resV a.tmps)).run P w = .ok vs w /\ relAll s ds vs
 | [], ds, h => by
  simp only [allR, Option.some.injEq] at h; subst h
  exact ⟨[], by simp, z0q⟩
 | r :: rs, ds, h => by
  simp only [allR] at h
  split at h
  ·rename_i d ds' V hds
   cases h
   obtain ⟨vs, h1, h2⟩ := zco hf rs ds' hds
   cases r with
   | tmp t =>
    simp only [valR, Option.some.injEq] at V; subst V
    refine ⟨a.tmps.getD t undef :: vs, ?_, z0m (hf.tmps t) h2⟩
    simp only [List.mapM_cons, Sem.run_bind, resV, Sem.run_pure, Result.andThen_ok, h1]
   | cell b ty =>
    simp only [valR] at V
    have hd' := V
    rw [<- hf.H] at V
    obtain ⟨u, h3, h4⟩ := zgu hf.heap V (hf.tmps b)
    refine ⟨u :: vs, ?_, z0m h4 h2⟩
    have h5 := zpx V (hf.tmps b) h3
    rw [List.mapM_cons, Sem.run_bind]
    simp only [resV]
    rw [h5, Result.andThen_ok, Sem.run_bind, h1, Result.andThen_ok, Sem.run_pure]
  ·cases h

theorem z5m {N : Nat} {st : St} {s : RS} {a : Act} {w : World} (hf : Fr P N st s a w) {fn : Func} {r : D} (h : resD P st fn.results.toList = some r) :
  ∃ v, (results fn a.tmps).run P w = .ok v w /\ rel s r v := by
 unfold resD at h
 cases hall : allR P st fn.results.toList with
 | none => rw [hall] at h; cases h
 | some ds =>
  obtain ⟨vs, h1, h2⟩ := zco hf _ _ hall
  have hrun : (results fn a.tmps).run P w = .ok (if h : vs.toArray.size = 1 then vs.toArray[0] else .tuple vs.toArray) w := by
   rw [zpy, Array.mapM_eq_mapM_toList]
   simp only [Sem.run_bind, Sem.run_map, h1, Result.andThen_ok, Sem.run_pure]
  rw [hall] at h
  have hl := z06 h2
  match ds, h with
  | [], h =>
   simp only [Option.some.injEq] at h; subst h
   have : vs = [] := List.eq_nil_of_length_eq_zero (by simpa using hl)
   subst this
   exact ⟨_, hrun, by simp only [rel]; exact ⟨[], by simp, z0q⟩⟩
  | [d], h =>
   simp only [Option.some.injEq] at h; subst h
   simp only [relAll] at h2
   obtain ⟨v, r, rfl, h3, rfl⟩ := h2
   exact ⟨_, hrun, by simpa using h3⟩
  | d :: e :: ds, h =>
   simp only [Option.some.injEq] at h; subst h
   refine ⟨_, hrun, ?_⟩
   have hne : ¬ vs.toArray.size = 1 := by simp [hl]
   rw [dif_neg hne]
   simp only [rel]
   exact ⟨vs, rfl, h2⟩

def st0 (ds : List D) (H : HM) (nx : Nat) : St := ⟨fun i => (ds[i]?).getD .any, H, nx⟩

theorem z1v {f : FuncId} {fn : Func} {c : Code} (own : List Nat) (hf : P.funcs[f]? = some fn) (hb : fn.body = some c) (hname : (fn.name == "runtime.NumGoroutine") = false) (hm : P.follows .mixedOrders = true)
  (hok : z85 fn.ntmps c = true) {ds : List D} {H : HM} {nx : Nat} {K : D -> HM -> Nat -> Prop} (hds : ds.length <= fn.ntmps) (h : awp P own c (retQ P fn.results.toList K) (st0 ds H nx)) : AC P f ds H nx K := by
 refine ⟨⟨fn, hf, hname, by rw [hb]; rfl⟩, fun s w vs hH hnx hRH hr => ?_⟩
 have hlen := z06 hr
 refine calls_of_wp hf hb ?_
 have hfr : Fr P fn.ntmps (st0 ds H nx) s { tmps := vs.toArray ++ Array.replicate (fn.ntmps - vs.toArray.size) undef, defers := [] } w := by
  refine ⟨hH, hnx, by simp; omega, rfl, fun i => ?_, hRH⟩
  simp only [st0]
  cases V : ds[i]? with
  | none => simp [rel]
  | some d =>
   obtain ⟨v, hv, hrel⟩ := z29 hr i d V
   have hi : i < vs.length := by
    rcases Nat.lt_or_ge i vs.length with h | h
    ·exact h
    ·rw [List.getElem?_eq_none h] at hv; cases hv
   simp only [Array.getD_eq_getD_getElem?, Option.getD_some]
   rw [Array.getElem?_append_left (by simpa using hi)]
   simp only [List.getElem?_toArray, hv, Option.getD_some]
   exact hrel
 refine wp_mono (z50 (s0 := s) (w0 := w) hm c _ _ s _ w hok h hfr (Step.refl s w)) ?_
 rintro e a' w' ⟨st', s', hq, hf', hs'⟩
 cases e with
 | normal =>
  obtain ⟨r, hr, J⟩ := hq
  obtain ⟨v, h1, h2⟩ := z5m hf' hr
  exact ⟨hf'.defers, v, h1, v, r, s', rfl, by rw [hf'.H, hf'.nx]; exact J, hs', hf'.heap, h2⟩
 | ret =>
  obtain ⟨r, hr, J⟩ := hq
  obtain ⟨v, h1, h2⟩ := z5m hf' hr
  exact ⟨hf'.defers, v, h1, v, r, s', rfl, by rw [hf'.H, hf'.nx]; exact J, hs', hf'.heap, h2⟩
 | exit id => exact hq.elim
 | goto l => exact hq.elim
 | panic ch => exact hq.elim
 | outgrown => exact hq.elim

end Go.Proofs.YtppebcifiejplaaGreatDoor.Abs
namespace Go.Proofs.YtppebcifiejplaaGreatDoor.Abs
open Go.RowKit
variable {P : Program}

def flatD : D -> Bool
 | .int .. | .bool _ | .str _ | .nil | .nptr | .nfun | .nmp | .e0 | .any => true
 | .tup ds => flatL ds
 | .agg ds => flatL ds
 | _ => false
where flatL : List D -> Bool
 | [] => true
 | d :: ds => flatD d && flatL ds

mutual
theorem zns (s s' : RS) : ∀ (d : D) (v : Value), flatD d = true -> rel s d v -> rel s' d v
 | .any, _, _, _ => by simp [rel]
 | .int k n, v, _, hr => by simpa [rel] using hr
 | .bool b, v, _, hr => by simpa [rel] using hr
 | .str x, v, _, hr => by simpa [rel] using hr
 | .agg ds, v, hp, hr => by
  simp only [flatD] at hp
  simp only [rel] at hr ⊢
  obtain ⟨vs, h1, h2, h3⟩ := hr
  exact ⟨vs, h1, za6 s s' ds vs hp h2, h3⟩
 | .tup ds, v, hp, hr => by
  simp only [flatD] at hp
  simp only [rel] at hr ⊢
  obtain ⟨vs, h1, h2⟩ := hr
  exact ⟨vs, h1, za6 s s' ds vs hp h2⟩
 | .nil, v, _, hr => by simpa [rel] using hr
 | .nptr, v, _, hr => by simpa [rel] using hr
 | .nfun, v, _, hr => by simpa [rel] using hr
 | .nmp, v, _, hr => by simpa [rel] using hr
 | .e0, v, _, hr => by simpa [rel] using hr
 | .rsl .., _, hp, _ => by cases hp
 | .fsl .., _, hp, _ => by cases hp
 | .rptr _, _, hp, _ => by cases hp
 | .fn .., _, hp, _ => by cases hp
 | .osl .., _, hp, _ => by cases hp
 | .ptr .., _, hp, _ => by cases hp
 | .eptr .., _, hp, _ => by cases hp
 | .mp _, _, hp, _ => by cases hp
 | .it _, _, hp, _ => by cases hp
theorem za6 (s s' : RS) : ∀ (ds : List D) (vs : List Value), flatD.flatL ds = true -> relAll s ds vs -> relAll s' ds vs
 | [], vs, _, hr => by simpa [relAll] using hr
 | d :: ds, vs, hp, hr => by
  simp only [flatD.flatL, Bool.and_eq_true] at hp
  simp only [relAll] at hr ⊢
  obtain ⟨v, r, h1, h2, h3⟩ := hr
  exact ⟨v, r, h1, zns s s' d v hp.1 h2, za6 s s' ds r hp.2 h3⟩
end

def zdd (f : D -> Option D) : List D -> Option (List D)
 | [] => some []
 | d :: ds => match f d, zdd f ds with
  | some d', some ds' => some (d' :: ds')
  | _, _ => none
def z34 (P : Program) (H : HM) : Nat -> D -> Option D
 | 0, _ => none
 | k + 1, d =>
  if pureD d = true then some d else
  match d with
  | .osl id n => match H id with
   | some (.row e n' cs) => if n = n' /\ (z04 P e = true \/ (z04 P e = false /\ z02 P e = 1)) then (zdd (z34 P H k) cs).map fun cs' => .rsl false (z02 P e) (z1m (z04 P e) (z02 P e) n cs') else none
   | _ => none
  | .agg ds => (zdd (z34 P H k) ds).map .agg
  | .tup ds => (zdd (z34 P H k) ds).map .tup
  | .rsl nn sz els => (zdd (z34 P H k) els).map (.rsl nn sz)
  | .fn f cap => (zdd (z34 P H k) cap).map (.fn f)
  | .ptr id off => match H id with
   | some (.box e cs) => if off = 0 /\ (z04 P e = true \/ (z04 P e = false /\ cs.length = 1)) then (zdd (z34 P H k) cs).map fun cs' => .rptr (if z04 P e = true then .agg cs' else (cs'[0]?).getD .any) else none
   | _ => none
  | _ => none

noncomputable def RS.shut (s : RS) (w : World) : RS :=
 {s with m := fun a => @ite _ (owned s a.block) (Classical.propDecidable _) (w.cell? a) (s.m a), H := fun _ => none }

theorem zc1 {s : RS} {w : World} (h : RH P s w) : Step s w (s.shut w) w /\ RH P (s.shut w) w := by
 have hmem : ∀ a v, s.m a = some v -> (s.shut w).m a = some v := by
  intro a v hm
  have := (h.mem a v hm).2
  simp only [RS.shut]
  rw [if_neg this]; exact hm
 have hno : ∀ k, ¬ owned (s.shut w) k := by
  rintro k ⟨id, _, hH, _⟩
  exact hH rfl
 refine ⟨⟨rfl, rfl, rfl, Nat.le_refl _, Nat.le_refl _, hmem, fun a v hm => ?_, fun id _ => ?_, fun _ _ _ => rfl, fun k ho => (hno k ho).elim⟩, ?_, ?_, ?_, fun g => z1r hmem _ _ (z77 g) (h.glob g)⟩
 ·simp only [RS.shut] at hm
  by_cases ho : owned s a.block
  ·exact .inr (.inr ho)
  ·rw [if_neg ho] at hm; exact .inl hm
 ·simp only [RS.shut]
  unfold objLe
  cases s.H id with
  | none => rfl
  | some o => cases o <;> exact .inl rfl
 ·intro a v hm
  refine ⟨?_, hno _⟩
  simp only [RS.shut] at hm
  by_cases ho : owned s a.block
  ·rw [if_pos ho] at hm; exact hm
  ·rw [if_neg ho] at hm; exact (h.mem a v hm).1
 ·intro id o ho; cases ho
 ·intro i j hi; exact (hi rfl).elim

theorem zgn {s : RS} {w : World} (h : RH P s w) : ∀ (k : Nat) (d : D) (v : Value) (r : D), rel s d v -> z34 P s.H k d = some r -> rel (s.shut w) r v := by
 obtain ⟨hstep, hRH⟩ := zc1 h
 intro k
 induction k with
 | zero => intro d v r _ hs; cases hs
 | succ k ih =>
  have ihL : ∀ (ds : List D) (vs : List Value) (rs : List D), relAll s ds vs -> zdd (z34 P s.H k) ds = some rs -> relAll (s.shut w) rs vs := by
   intro ds
   induction ds with
   | nil => intro vs rs hr hs; simp only [zdd, Option.some.injEq] at hs; subst hs; simpa [relAll] using hr
   | cons d ds ihd =>
    intro vs rs hr hs
    simp only [relAll] at hr
    obtain ⟨v, q, rfl, h1, h2⟩ := hr
    simp only [zdd] at hs
    split at hs
    ·rename_i d' ds' V hds
     cases hs
     exact z0m (ih d v d' h1 V) (ihd q ds' h2 hds)
    ·cases hs
  intro d v r hr hs
  simp only [z34] at hs
  split at hs
  ·rename_i hp
   cases hs
   exact z1r hstep.mem d v hp hr
  ·split at hs
   ·rename_i id n _
    split at hs
    ·rename_i e n' cs hid
     split at hs
     ·rename_i hc
      obtain ⟨rfl, hsz⟩ := hc
      simp only [Option.map_eq_some_iff] at hs
      obtain ⟨cs', hcs, rfl⟩ := hs
      obtain ⟨vs, ho, hrv, hov, hcl, hcell⟩ := z53 h hid
      simp only [rel] at hr
      obtain ⟨hidn, _, hlive⟩ := hr
      have hv := (hlive _ _ _ hid).2 rfl
      subst hv
      have hr' := ihL cs vs cs' hrv hcs
      have hl' : cs'.length = n * z02 P e := by rw [<- z06 hr', z06 hrv]; exact hcl
      have hg := z69 hsz n cs' vs hl' hr' hov
      have hgl : (z1m (z04 P e) (z02 P e) n cs').length = n := by rw [<- z06 hg]; exact z2y _ _ _ _
      simp only [rel]
      rcases ho.2 with ⟨hv0, hn0⟩ | ⟨g, cap, cur, hv0, _, hh, hnc, hcm, _⟩
      ·subst hn0
       exact .inl ⟨trivial, by rw [z1m], hv0⟩
      ·have hown : owned s g := ⟨id, hidn, by rw [hid]; simp, by rw [hv0]; rfl⟩
       refine .inr ⟨⟨g, 0, none⟩, cap, _, by rw [hgl]; exact hv0, by rw [hgl]; exact hnc, hcm, hg, fun i u hu => ?_⟩
       have hi : i < n := by
        rcases Nat.lt_or_ge i n with h9 | h9
        ·exact h9
        ·rw [List.getElem?_eq_none (by rw [z2y]; exact h9)] at hu; cases hu
       rw [z99 _ _ _ _ _ hi] at hu
       simp only [Option.some.injEq] at hu
       subst hu
       have hvl : vs.length = n * z02 P e := by rw [z06 hrv]; exact hcl
       have hmul : i * z02 P e + z02 P e <= n * z02 P e := by
        have := Nat.mul_le_mul_right (z02 P e) (show i + 1 <= n by omega)
        rw [Nat.add_mul] at this; omega
       have cellm : ∀ j c, vs[j]? = some c -> (s.shut w).m ⟨g, j, none⟩ = some c := by
        intro j c hj
        simp only [RS.shut]
        rw [if_pos hown]
        exact hcell g (by rw [hv0]; rfl) j c hj
       rcases hsz with hag | ⟨hag, h1⟩
       ·rw [if_pos hag]
        refine ⟨by simp [Value.cells]; omega, fun j c hj => ?_⟩
        rw [z0z, z0z, Nat.zero_add]
        simp only [Value.cells, List.getElem?_take, List.getElem?_drop] at hj
        split at hj
        ·exact cellm _ _ hj
        ·cases hj
       ·rw [if_neg (by rw [hag]; simp)]
        rw [h1] at hmul hvl ⊢
        simp only [Nat.mul_one] at hmul hvl ⊢
        have hget : vs[i]? = some vs[i] := List.getElem?_eq_getElem (by omega)
        have h1u : (vs[i]).oneCell' = true := hov _ (List.getElem_mem _)
        rw [hget]
        simp only [Option.getD_some]
        rw [z21 h1u]
        refine ⟨rfl, fun j c hj => ?_⟩
        cases j with
        | zero =>
         simp at hj; subst hj
         rw [z0z, z0z, Nat.zero_add]
         exact cellm _ _ hget
        | succ j => simp at hj
     ·cases hs
    ·cases hs
   ·rename_i ds _
    simp only [Option.map_eq_some_iff] at hs
    obtain ⟨ds', hds, rfl⟩ := hs
    simp only [rel] at hr ⊢
    obtain ⟨vs, h1, h2, h3⟩ := hr
    exact ⟨vs, h1, ihL _ _ _ h2 hds, h3⟩
   ·rename_i ds _
    simp only [Option.map_eq_some_iff] at hs
    obtain ⟨ds', hds, rfl⟩ := hs
    simp only [rel] at hr ⊢
    obtain ⟨vs, h1, h2⟩ := hr
    exact ⟨vs, h1, ihL _ _ _ h2 hds⟩
   ·rename_i nn sz els _
    simp only [Option.map_eq_some_iff] at hs
    obtain ⟨ds', hds, rfl⟩ := hs
    simp only [rel] at hr ⊢
    rcases hr with ⟨h1, rfl, h3⟩ | ⟨a, cap, vs, h1, h2, h3, h4, h5⟩
    ·simp only [zdd, Option.some.injEq] at hds; subst hds
     exact .inl ⟨h1, rfl, h3⟩
    ·have h6 := ihL _ _ _ h4 hds
     have h7 : ds'.length = els.length := by rw [<- z06 h6, z06 h4]
     exact .inr ⟨a, cap, vs, by rw [h7]; exact h1, by rw [h7]; exact h2, h3, h6, fun i u hu => ⟨(h5 i u hu).1, (h5 i u hu).2.later hstep.mem⟩⟩
   ·rename_i f cap _
    simp only [Option.map_eq_some_iff] at hs
    obtain ⟨ds', hds, rfl⟩ := hs
    simp only [rel] at hr ⊢
    obtain ⟨vs, h1, h2⟩ := hr
    exact ⟨vs, h1, ihL _ _ _ h2 hds⟩
   ·rename_i id off _
    split at hs
    ·rename_i e cs hid
     split at hs
     ·rename_i hc
      obtain ⟨rfl, hag⟩ := hc
      simp only [Option.map_eq_some_iff] at hs
      obtain ⟨cs', hcs, rfl⟩ := hs
      obtain ⟨b, vs, O, hb, hrv, hov, hcell⟩ := zbd h hid
      simp only [rel] at hr
      obtain ⟨hidn, _, hlive⟩ := hr
      obtain ⟨b', h1, h2⟩ := hlive _ _ hid
      have hbb : b' = b := by rw [h1] at O; cases O; rfl
      subst hbb
      have hr' := ihL cs vs cs' hrv hcs
      have hown : owned s b' := ⟨id, hidn, by rw [hid]; simp, by rw [h1]; rfl⟩
      have cellm : ∀ j c, vs[j]? = some c -> (s.shut w).m ⟨b', j, none⟩ = some c := by
       intro j c hj
       simp only [RS.shut]
       rw [if_pos hown]
       exact hcell j c hj
      simp only [rel]
      rcases hag with hag | ⟨hag, hl1⟩
      ·rw [if_pos hag]
       refine ⟨⟨b', 0, none⟩, .agg vs.toArray, h2, by simp only [rel]; exact ⟨vs, rfl, hr', hov⟩, fun j c hj => ?_⟩
       rw [z0z, Nat.zero_add]
       exact cellm j c (by simpa [Value.cells] using hj)
      ·rw [if_neg (by rw [hag]; simp)]
       have hl2 : vs.length = 1 := by rw [z06 hrv]; exact hl1
       obtain ⟨u, rfl⟩ := List.length_eq_one_iff.1 hl2
       have hl3 : cs'.length = 1 := by rw [<- z06 hr']; rfl
       obtain ⟨c0, rfl⟩ := List.length_eq_one_iff.1 hl3
       simp only [relAll] at hr'
       obtain ⟨u', q, hu, hcr, _⟩ := hr'
       cases hu
       have h1u : u.oneCell' = true := hov _ (by simp)
       refine ⟨⟨b', 0, none⟩, u, h2, hcr, fun j c hj => ?_⟩
       rw [z21 h1u] at hj
       rw [z0z, Nat.zero_add]
       exact cellm j c (by simpa using hj)
     ·cases hs
    ·cases hs
   ·cases hs

def noH : HM := fun _ => none
def PC (P : Program) (f : FuncId) (ds : List D) (r : D) : Prop :=
 pureD.pureL ds = true /\ pureD r = true /\ AC P f ds noH 0 fun r' _ _ => r' = r

def Le (d d' : D) : Prop := ∀ s v, rel s d v -> rel s d' v
theorem Le.refl (d : D) : Le d d := fun _ _ h => h
theorem Le.nil (sz : Nat) : Le .nil (.rsl false sz []) := fun s v h => by simp only [rel] at h ⊢; exact .inl ⟨trivial, trivial, h⟩
theorem Le.rsl {nn : Bool} {sz : Nat} {els : List D} : Le (.rsl nn sz els) (.rsl false sz els) := fun s v h => by
 simp only [rel] at h ⊢
 rcases h with ⟨_, h1, h2⟩ | h
 ·exact .inl ⟨trivial, h1, h2⟩
 ·exact .inr h
def LeL : List D -> List D -> Prop
 | [], [] => True
 | d :: ds, e :: es => Le d e /\ LeL ds es
 | _, _ => False
theorem zb5 {s : RS} : ∀ {ds es : List D} {vs : List Value}, LeL ds es -> relAll s ds vs -> relAll s es vs
 | [], [], _, _, h => h
 | [], _ :: _, _, h, _ => h.elim
 | _ :: _, [], _, h, _ => h.elim
 | d :: ds, e :: es, vs, h, hr => by
  simp only [relAll] at hr ⊢
  obtain ⟨v, r, h1, h2, h3⟩ := hr
  exact ⟨v, r, h1, h.1 _ _ h2, zb5 h.2 h3⟩
theorem Le.tup {ds es : List D} (h : LeL ds es) : Le (.tup ds) (.tup es) := fun s v hr => by
 simp only [rel] at hr ⊢
 obtain ⟨vs, h1, h2⟩ := hr
 exact ⟨vs, h1, zb5 h h2⟩
theorem Le.agg {ds es : List D} (h : LeL ds es) : Le (.agg ds) (.agg es) := fun s v hr => by
 simp only [rel] at hr ⊢
 obtain ⟨vs, h1, h2, h3⟩ := hr
 exact ⟨vs, h1, zb5 h h2, h3⟩

def Fin (P : Program) (k : Nat) (r : D) : D -> HM -> Nat -> Prop := fun r' H _ => ∃ d, z34 P H k r' = some d /\ Le d r

theorem AC.shut {f : FuncId} {ds : List D} {H : HM} {nx : Nat} {r : D} {k : Nat} (h : AC P f ds H nx (Fin P k r)) : AC P f ds H nx fun r' _ _ => r' = r := by
 refine ⟨h.1, fun s w vs h1 h2 h3 h4 => (h.2 s w vs h1 h2 h3 h4).mono fun e w' ⟨v, r', s', he, ⟨d, hs, hle⟩, hstep, hRH, hr⟩ => ?_⟩
 obtain ⟨g1, g2⟩ := zc1 hRH
 exact ⟨v, r, s'.shut w', he, rfl, hstep.trans g1, g2, hle _ _ (zgn hRH k r' v d hr hs)⟩

theorem z1y {f : FuncId} {ds : List D} {r : D} (k : Nat) (hds : pureD.pureL ds = true) (hr : pureD r = true) (h : AC P f ds noH 0 (Fin P k r)) : PC P f ds r :=
 ⟨hds, hr, h.shut⟩

theorem zv7 {f : FuncId} {ds : List D} {r : D} (h : PC P f ds r) {s s1 : RS} {w : World} {vs : List Value} (hRH : RH P s w) (hRH1 : RH P s1 w) (hr1 : relAll s1 ds vs)
  (hsub : (∀ a v, s1.m a = some v -> s.m a = some v) \/ flatD r = true) :
  Calls P f vs.toArray w fun e w' => ∃ v r' s', e = .returned v /\ (r' = r /\ s'.H = s.H /\ s'.nx = s.nx) /\ Step s w s' w' /\ RH P s' w' /\ rel s' r' v := by
 let s2 : RS := { s1 with H := noH, nx := 0 }
 have hno : ∀ k, ¬ owned s2 k := by rintro k ⟨id, hid, _⟩; exact absurd hid (Nat.not_lt_zero _)
 have hRH2 : RH P s2 w := ⟨fun a v hmm => ⟨(hRH1.mem a v hmm).1, hno _⟩, fun id o ho => (by cases ho), fun i j hi => (hi rfl).elim, fun g => z1r (s := s1) (s' := s2) (fun a v hm => hm) _ _ (z77 g) (hRH1.glob g)⟩
 have hr2 : relAll s2 ds vs := z1i (s := s1) (s' := s2) (fun a v hm => hm) ds vs h.1 hr1
 refine (h.2.2.2 s2 w vs rfl rfl hRH2 hr2).mono fun e w' ⟨v, r', s3, he, hrr, hstep, hRH3, hrel⟩ => ?_
 subst hrr
 have hold : ∀ k, k < w.heap.size -> w'.heap[k]? = w.heap[k]? := fun k O => hstep.keep k O (hno k)
 have hgrew : Grew w w' := ⟨hstep.os, hstep.tape, hstep.output, hstep.size, hold⟩
 obtain ⟨g1, g2⟩ := z91 hRH hgrew
 refine ⟨v, r', s.grow w w', he, ⟨rfl, rfl, rfl⟩, g1, g2, ?_⟩
 rcases hsub with hsub | hflat
 ·refine z1r (fun a u hm3 => ?_) r' v h.2.1 hrel
  simp only [RS.grow]
  rcases hstep.new a u hm3 with h1 | h1 | h1
  ·have hlt := hRH1.mem_lt h1
   rw [if_pos hlt]; exact hsub a u h1
  ·rw [if_neg (by omega)]; exact (hRH3.mem a u hm3).1
  ·exact (hno _ h1).elim
 ·exact zns _ _ r' v hflat hrel

theorem PC.rc {f : FuncId} {ds : List D} {r : D} (h : PC P f ds r) (H : HM) (nx : Nat) : RC P f ds H nx r := by
 refine ⟨h.2.2.1, fun s w vs hH hnx hRH hr => ?_⟩
 subst hH; subst hnx
 let s1 : RS := { s with H := noH, nx := 0 }
 have hno : ∀ k, ¬ owned s1 k := by rintro k ⟨id, hid, _⟩; exact absurd hid (Nat.not_lt_zero _)
 exact zv7 h (s1 := s1) hRH ⟨fun a v hmm => ⟨(hRH.mem a v hmm).1, hno _⟩, fun id o ho => (by cases ho), fun i j hi => (hi rfl).elim, fun g => z1r (s := s) (s' := s1) (fun a v hm => hm) _ _ (z77 g) (hRH.glob g)⟩ (z1i (s := s) (s' := s1) (fun a v hm => hm) ds vs h.1 hr) (.inl fun a v hm => hm)

theorem zes {s : RS} {w : World} (h : RH P s w) (k : Nat) : ∀ (ds : List D) (vs : List Value) (rs : List D), relAll s ds vs -> zdd (z34 P s.H k) ds = some rs -> relAll (s.shut w) rs vs
 | [], vs, rs, hr, hs => by simp only [zdd, Option.some.injEq] at hs; subst hs; simpa [relAll] using hr
 | d :: ds, vs, rs, hr, hs => by
  simp only [relAll] at hr
  obtain ⟨v, q, rfl, h1, h2⟩ := hr
  simp only [zdd] at hs
  split at hs
  ·rename_i d' ds' V hds
   cases hs
   exact z0m (zgn h k d v d' h1 V) (zes h k ds q ds' h2 hds)
  ·cases hs
theorem PC.borrow {f : FuncId} {ds ds' : List D} {r : D} (h : PC P f ds' r) (hf : flatD r = true) (k : Nat) {H : HM} {nx : Nat} (hs : zdd (z34 P H k) ds = some ds') : RC P f ds H nx r := by
 refine ⟨h.2.2.1, fun s w vs hH hnx hRH hr => ?_⟩
 subst hH; subst hnx
 obtain ⟨g1, g2⟩ := zc1 hRH
 exact zv7 h (s1 := s.shut w) hRH g2 (zes hRH k ds vs ds' hr hs) (.inr hf)
theorem PC.ac {f : FuncId} {ds : List D} {r : D} (h : PC P f ds r) {H : HM} {nx : Nat} {K : D -> HM -> Nat -> Prop} (O : K r H nx) : AC P f ds H nx K :=
 AC.mono (h.rc H nx) fun _ _ _ ⟨h1, h2, h3⟩ => by subst h1; subst h2; subst h3; exact O
theorem RC.ac {f : FuncId} {ds : List D} {r : D} {H : HM} {nx : Nat} (h : RC P f ds H nx r) {K : D -> HM -> Nat -> Prop} (O : K r H nx) : AC P f ds H nx K :=
 AC.mono h fun _ _ _ ⟨h1, h2, h3⟩ => by subst h1; subst h2; subst h3; exact O

end Go.Proofs.YtppebcifiejplaaGreatDoor.Abs
namespace Go.Proofs.YtppebcifiejplaaGreatDoor.Abs
open Go.RowKit
variable {P : Program} {own : List Nat} {Q : Exit -> St -> Prop} {st : St}

theorem zv8 {a b : Code} (h : ∀ K : St -> Prop, (∀ st, awp P own b Q st -> K st) -> awp P own a (znr K Q) st) : awp P own (.seq a b) Q st := h _ fun st h => ⟨st, SealTo.refl st, h⟩
theorem zv9 {id : Nat} {l : List Oper} (h : z2b P own (l.map (·.dst)) l (Q .normal) st) : awp P own (.region id l.toArray false) Q st := ⟨fun h => (by cases h), fun _ => h⟩
theorem znt {id : Nat} {l : List Oper} (h0 : zgl own l.toArray = true) (h : z2s P own (l.map (·.dst)) l (Q .normal) st) : awp P own (.region id l.toArray true) Q st := ⟨fun _ => .inl ⟨h0, h⟩, fun h => (by cases h)⟩
theorem zqh {id : Nat} {l : List Oper} {b : Code} (h : ∀ K : St -> Prop, (∀ st, awp P own b Q st -> K st) -> z2b P own (l.map (·.dst)) l K st) : awp P own (.seq (.region id l.toArray false) b) Q st :=
 zv8 fun K J => zv9 (h K J)
theorem zqe {id : Nat} {l : List Oper} {b : Code} (h0 : zgl own l.toArray = true) (h : ∀ K : St -> Prop, (∀ st, awp P own b Q st -> K st) -> z2s P own (l.map (·.dst)) l K st) : awp P own (.seq (.region id l.toArray true) b) Q st :=
 zv8 fun K J => znt h0 (h K J)
theorem zka {K K' : St -> Prop} {Q Q' : Exit -> St -> Prop} (O : ∀ st, K st -> K' st) (h : ∀ e st, Q e st -> Q' e st) : ∀ e st, znr K Q e st -> znr K' Q' e st := by
 intro e st hq
 cases e with
 | normal => exact O st hq
 | _ => exact h _ st hq
theorem z8t {ops : List (Option Nat)} {K K' : St -> Prop} (h : ∀ st, K st -> K' st) : ∀ (l : List Oper) (st : St), z2b P own ops l K st -> z2b P own ops l K' st
 | [], st, hq => h st hq
 | o :: l, st, hq => by
  simp only [z2b] at hq ⊢
  split
  ·rename_i hg
   rw [hg] at hq
   simp only at hq
   unfold opW at hq ⊢
   split
   ·rename_i hop
    simp only [hop] at hq
    split
    ·rename_i hf
     rw [hf] at hq
     exact AC.mono hq fun r H nx O => z8t h l _ O
    ·rename_i hf
     rw [hf] at hq
     exact AC.mono hq fun r H nx O => z8t h l _ O
    ·rename_i hf1 hf2
     split at hq
     ·rename_i hf3; exact (hf1 _ _ hf3).elim
     ·rename_i hf3; exact (hf2 _ _ hf3).elim
     ·exact hq
   ·rename_i hop
    split at hq
    ·rename_i hop2; exact (hop _ _ _ hop2).elim
    ·split at hq
     ·exact z8t h l _ hq
     ·exact hq
  ·rename_i hg
   rw [hg] at hq
   exact z8t h l _ hq
  ·rename_i hg
   rw [hg] at hq
   exact hq
theorem z4h {ops : List (Option Nat)} {K K' : St -> Prop} (h : ∀ st, K st -> K' st) : ∀ (l : List Oper) (st : St), z2s P own ops l K st -> z2s P own ops l K' st
 | [], st, hq => h st hq
 | o :: l, st, hq => by
  simp only [z2s] at hq ⊢
  split
  ·rename_i hg
   rw [hg] at hq
   simp only at hq
   unfold opD at hq ⊢
   split
   ·rename_i hop
    simp only [hop] at hq
    split
    ·rename_i hf
     rw [hf] at hq
     rcases hq with ⟨h0, ht, r, h1, h2⟩ | ⟨h0, r, h1, h2⟩ | ⟨h0, hm, d, H, nx, h1, h3, h2⟩
     ·exact .inl ⟨h0, ht, r, h1, z4h h l _ h2⟩
     ·exact .inr (.inl ⟨h0, r, h1, z4h h l _ h2⟩)
     ·exact .inr (.inr ⟨h0, hm, d, H, nx, h1, h3, z4h h l _ h2⟩)
    ·rename_i hf
     split at hq
     ·rename_i hf2; exact (hf _ _ hf2).elim
     ·exact hq
   ·rename_i hop
    split at hq
    ·rename_i hop2; exact (hop _ _ _ hop2).elim
    ·split at hq
     ·split at hq
      ·rename_i hok
       rw [if_pos hok]
       exact z4h h l _ hq
      ·cases hq
     ·exact hq
  ·rename_i hg
   rw [hg] at hq
   exact z4h h l _ hq
  ·rename_i hg
   rw [hg] at hq
   exact hq
theorem zva {ops : Array Oper} {K K' : St -> Prop} (h : ∀ st, K st -> K' st) {st : St} (hq : awpR P own ops K st) : awpR P own ops K' st := by
 rcases hq with ⟨h0, hq⟩ | ⟨a, h0, ha, hq⟩
 ·exact .inl ⟨h0, z4h h _ _ hq⟩
 ·exact .inr ⟨a, h0, ha, z4h (fun st1 h1 => ⟨z4h h _ _ h1.1, z4h h _ _ h1.2⟩) _ _ hq⟩
theorem z5n : ∀ (c : Code) (Q1 Q2 : Exit -> St -> Prop) (st : St), (∀ e st, Q1 e st -> Q2 e st) -> awp P own c Q1 st -> awp P own c Q2 st
 | .skip, _, _, st, hq, h => hq _ st h
 | .region _ _ _, _, _, st, hq, h => ⟨fun V => zva (hq _) (h.1 V), fun V => z8t (hq _) _ st (h.2 V)⟩
 | .seq a b, Q1, Q2, st, hq, h => z5n a _ _ st (zka (fun _ ⟨st', hs, h⟩ => ⟨st', hs, z5n b Q1 Q2 st' hq h⟩) hq) h
 | .cond _ x y, Q1, Q2, st, hq, h => by
  obtain ⟨t, h0, h1, h2⟩ := h
  exact ⟨t, h0, fun e => z5n x Q1 Q2 st hq (h1 e), fun e => z5n y Q1 Q2 st hq (h2 e)⟩
 | .block id c, Q1, Q2, st, hq, h => by
  refine z5n c _ _ st (fun e st hb => ?_) h
  cases e with
  | exit id' =>
   simp only [zpw] at hb ⊢
   split
   ·rename_i he; rw [if_pos he] at hb; exact hq _ _ hb
   ·rename_i he; rw [if_neg he] at hb; exact hq _ _ hb
  | _ => exact hq _ _ hb
 | .loop c, Q1, Q2, st, hq, h => by
  obtain ⟨I, h0, h1⟩ := h
  refine ⟨I, h0, fun n st' hI => z5n c _ _ st' (fun e st hb => ?_) (h1 n st' hI)⟩
  cases e with
  | normal => exact hb
  | _ => exact hq _ _ hb
 | .exit _, _, _, st, hq, h => hq _ st h
 | .ret, _, _, st, hq, h => hq _ st h
 | .rangeFunc .., _, _, _, _, h => h.elim
 | .scope _, _, _, _, _, h => h.elim
 | .label _, _, _, _, _, h => h.elim
 | .goto _, _, _, _, _, h => h.elim
 | .refuse _, _, _, _, _, h => h.elim
theorem zqj {a b c : Code} (h : awp P own (.seq a (.seq b c)) Q st) : awp P own (.seq (.seq a b) c) Q st :=
 z5n a _ _ st (fun e st h => by cases e <;> exact h) h
theorem zqm {c : Operand} {x y : Code} (t : Bool) (ht : st.ev c = .bool t) (h1 : t = true -> awp P own x Q st) (h2 : t = false -> awp P own y Q st) : awp P own (.cond c x y) Q st := ⟨t, ht, h1, h2⟩
theorem zqi {id : Nat} {c : Code} (h : awp P own c (zpw id Q) st) : awp P own (.block id c) Q st := h
theorem zqn (h : Q .ret st) : awp P own .ret Q st := h
theorem zqk (h : Q .normal st) : awp P own .skip Q st := h
theorem zql {id : Nat} (h : Q (.exit id) st) : awp P own (.exit id) Q st := h
end Go.Proofs.YtppebcifiejplaaGreatDoor.Abs
namespace Go.Proofs.YtppebcifiejplaaGreatDoor.Abs
theorem zvb {P : Program} {t : TypeId} {parts : List (Nat × D)} : z86 P t parts = match z17 P t with
  | some zs => if z2n P t = true then (zhw (fun i => (z0y P t i).map fun (o, ft) => (o, z02 P ft)) zs parts).map .agg else
    match z3n P t with
    | some (_, e) => if z02 P e ≠ 0 then (zhw (fun i => some (i * z02 P e, z02 P e)) zs parts).map .agg else none
    | none => none
  | none => none := by
 unfold z86
 cases z17 P t with
 | none => rfl
 | some zs =>
  unfold z2n z3n
  cases hu : P.underlying t with
  | none => rfl
  | some d => cases d <;> simp
attribute [go_sem] zvb
attribute [go_sem] zra zcq z4k z3x z8w z3p z5f z11 z37 z0p z9q zbb z9r z5a zhw z1h zkv zrb zcr zkw unD zrc maxD minD zfv z7w z63
attribute [go_sem] List.getElem?_cons_zero List.getElem?_cons_succ Option.getD_some Option.map_some Option.map_none Option.bind_some Option.bind_none if_true if_false List.length_map List.map_cons List.map_nil List.any_cons List.any_nil Bool.or_false Bool.false_eq_true and_self true_and and_true
end Go.Proofs.YtppebcifiejplaaGreatDoor.Abs
namespace Go.Proofs.YtppebcifiejplaaGreatDoor.Abs
open Go.RowKit

def z45 (o : Option D) (f : List Oper -> (St -> Prop) -> St -> Prop) (rest : List Oper) (K : St -> Prop) (st : St) (dst : Option Nat) : Prop := match o with | some d => f rest K (st.put dst d) | none => False
def zfk (e : TypeId) (o : Option (List D)) (f : List Oper -> (St -> Prop) -> St -> Prop) (rest : List Oper) (K : St -> Prop) (st : St) (dst : Option Nat) : Prop :=
 match o with | some cs => f rest K ((st.withH (z1f st.H st.nx (some (.box e cs))) (st.nx + 1)).put dst (.ptr st.nx 0)) | none => False
def zy8 (o : Option HM) (f : List Oper -> (St -> Prop) -> St -> Prop) (rest : List Oper) (K : St -> Prop) (st : St) (dst : Option Nat) : Prop := match o with | some H => f rest K ((st.withH H st.nx).put dst .any) | none => False
def zfs (o : Option (D × HM × Nat)) (f : List Oper -> (St -> Prop) -> St -> Prop) (rest : List Oper) (K : St -> Prop) (st : St) (dst : Option Nat) : Prop := match o with | some (d, H, nx) => f rest K ((st.withH H nx).put dst d) | none => False
def z9j (b : Bool) (p : Prop) : Prop := if b = true then p else False
def okA (own : List Nat) (dst : Option Nat) (st : St) : Bool := if z0h 7000000 own dst = true then decide (z2a own <= st.nx) else true
def okS (own : List Nat) (dst : Option Nat) (st : St) : Bool := if z0h 7000000 own dst = true /\ zfw own dst = true then decide (z2a own <= st.nx) else true
def okQ (own : List Nat) (dst : Option Nat) (st : St) (x : D) : Bool := if z0h 7000000 own dst = true then (match x with | .osl id _ => decide (z2a own <= id /\ z2a own <= st.nx) | _ => decide (z2a own <= st.nx)) else true
theorem z75 (b : Bool) : z9j b False = False := by unfold z9j; split <;> rfl
def zvc (g : Option Bool) (f : List Oper -> (St -> Prop) -> St -> Prop) (o : Oper) (rest : List Oper) (K : St -> Prop) (st : St) : Prop := match g with | some true => f (o :: rest) K st | some false => f rest K (st.put o.dst (.tup [])) | none => False
section
variable {f : List Oper -> (St -> Prop) -> St -> Prop} {rest : List Oper} {K : St -> Prop} {st : St} {dst : Option Nat}
@[go_sem] theorem stepK_true (p : Prop) : z9j true p = p := by unfold z9j; simp
@[go_sem] theorem stepO_some (d : D) : z45 (some d) f rest K st dst = f rest K (st.put dst d) := rfl
@[go_sem] theorem stepB_some (e : TypeId) (cs : List D) : zfk e (some cs) f rest K st dst = f rest K ((st.withH (z1f st.H st.nx (some (.box e cs))) (st.nx + 1)).put dst (.ptr st.nx 0)) := rfl
@[go_sem] theorem stepH_some (H : HM) : zy8 (some H) f rest K st dst = f rest K ((st.withH H st.nx).put dst .any) := rfl
@[go_sem] theorem step3_some (d : D) (H : HM) (nx : Nat) : zfs (some (d, H, nx)) f rest K st dst = f rest K ((st.withH H nx).put dst d) := rfl
@[go_sem] theorem stepG_true (o : Oper) : zvc (some true) f o rest K st = f (o :: rest) K st := rfl
@[go_sem] theorem stepG_false {op : Op} {ty : TypeId} {pos : String} {aft : Array Edge} {g : Option (Nat × Bool)} : zvc (some false) f ⟨dst, op, ty, pos, aft, g⟩ rest K st = f rest K (st.put dst (.tup [])) := rfl
end

def z7t (P : Program) (own : List Nat) (dst : Option Nat) (ty : TypeId) (st : St) (x : D) : Option (D × HM × Nat) :=
 match x with
 | .nil => if zfw own dst = true then (z0x P ty).map fun e => (.osl st.nx 0, z1f st.H st.nx (some (.row e 0 [])), st.nx + 1) else some (.nil, st.H, st.nx)
 | d => some (d, st.H, st.nx)
def z30 (P : Program) (own : List Nat) (dst : Option Nat) (st : St) (t : TypeId) (len : Nat) (is : List Nat) (els : List D) : Option (D × HM × Nat) :=
 match z0x P t with
 | some e =>
  if z02 P e ≠ 0 /\ z6r is 0 len = true /\ len * z02 P e <= 16777216 /\ (len = 0 \/ z0g P e = true) then
   (z1h (z02 P e) els).bind fun cs =>
    if zfw own dst = true then some (.osl st.nx len, z1f st.H st.nx (some (.row e len cs)), st.nx + 1)
    else if z0h 1000000 own dst = true /\ len = 0 then some (.e0, st.H, st.nx)
    else some (.rsl true (z02 P e) els, st.H, st.nx)
  else none
 | none => none
def z7u (P : Program) (own : List Nat) (dst : Option Nat) (st : St) (t : TypeId) (x y : D) : Option (D × HM × Nat) :=
 if z0h 1000000 own dst = true then (zf4 P st.H t x y).map fun d => (d, st.H, st.nx)
 else if z0h 2000000 own dst = true then (z63 P st.H st.nx t x y).bind (zc6 P)
 else z63 P st.H st.nx t x y
def zpz (P : Program) (st : St) (t : TypeId) (l c : D) : Option (D × HM × Nat) :=
 match z0x P t, l, c with
 | some e, .int _ l, .int _ c => if l = c /\ 0 <= l /\ l.toNat * z0k P e <= 140737488355328 /\ l <= 9223372036854775807 /\ 0 < z02 P e then
   (z17 P e).map fun zs => (.osl st.nx l.toNat, z1f st.H st.nx (some (.row e l.toNat (List.replicate l.toNat zs).flatten)), st.nx + 1) else none
 | _, _, _ => none
def fieldD (P : Program) (t : TypeId) (x : D) (f : Nat) : Option D :=
 match z0y P t f, x with
 | some (o, ft), .agg ds => z3x P ft ds o
 | _, _ => none
def z5o (x : D) (i : Nat) : Option D := match x with | .tup ds => ds[i]? | _ => none
def z4i (x : D) : Option D := match x with | .rptr d => some (.rptr d) | .ptr id off => some (.ptr id off) | _ => none
attribute [go_sem] z0h isG okG zaa z9k hmG z2a cutB okA okS okQ okT zuw okU zk0 za5 tcM z7u zf4 zc6 zky pureD pureD.pureL
@[go_sem] theorem groupD_zero (ag : Bool) (sz : Nat) (cs : List D) : z1m ag sz 0 cs = [] := rfl
@[go_sem] theorem groupD_cons (ag : Bool) (sz n : Nat) (c : D) (cs : List D) : z1m ag sz (n + 1) (c :: cs) = (if ag = true then .agg ((c :: cs).take sz) else c) :: z1m ag sz n ((c :: cs).drop sz) := rfl
attribute [go_sem] z6q z8z esD zrd updR z8y eqK za9 zmh zd3
attribute [go_sem] zfw z6r z7t z30 convD zyz zf6 zmi zf7 u8T zpz fieldD z5o z4i

@[go_sem] theorem ev_tmp (st : St) (i : Nat) : st.ev (.tmp i) = st.t i := rfl
@[go_sem] theorem ev_const (st : St) (v : Value) : st.ev (.const v) = zra v := rfl
@[go_sem] theorem ev_func (st : St) (f : FuncId) : st.ev (.func f) = .fn f [] := rfl
@[go_sem] theorem ev_global (st : St) (g : Nat) : st.ev (.global g) = globD g := rfl
attribute [go_sem] globD
@[go_sem] theorem put_none (st : St) (d : D) : st.put none d = st := rfl
@[go_sem] theorem t_put (st : St) (i j : Nat) (d : D) : (st.put (some i) d).t j = cond (j == i) d (st.t j) := by
 simp only [St.put, zr9]
 by_cases h : j = i
 ·subst h; simp
 ·have : (j == i) = false := by simpa using h
  rw [if_neg h, this]; rfl
attribute [go_sem] id_eq List.map_cons List.map_nil
@[go_sem] theorem H_put (st : St) (dst : Option Nat) (d : D) : (st.put dst d).H = st.H := put_H st dst d
@[go_sem] theorem nx_put (st : St) (dst : Option Nat) (d : D) : (st.put dst d).nx = st.nx := zzf st dst d
@[go_sem] theorem t_withH (st : St) (H : HM) (nx j : Nat) : (st.withH H nx).t j = st.t j := rfl
@[go_sem] theorem H_withH (st : St) (H : HM) (nx : Nat) : (st.withH H nx).H = H := rfl
@[go_sem] theorem nx_withH (st : St) (H : HM) (nx : Nat) : (st.withH H nx).nx = nx := rfl
@[go_sem] theorem withH_id (st : St) : st.withH st.H st.nx = st := rfl
@[go_sem] theorem t_st0 (ds : List D) (H : HM) (nx i : Nat) : (st0 ds H nx).t i = (ds[i]?).getD .any := rfl
@[go_sem] theorem H_st0 (ds : List D) (H : HM) (nx : Nat) : (st0 ds H nx).H = H := rfl
@[go_sem] theorem nx_st0 (ds : List D) (H : HM) (nx : Nat) : (st0 ds H nx).nx = nx := rfl
@[go_sem] theorem updH_at (H : HM) (i j : Nat) (o : Option HObj) : z1f H i o j = cond (j == i) o (H j) := by
 unfold z1f
 by_cases h : j = i
 ·subst h; simp
 ·have : (j == i) = false := by simpa using h
  rw [if_neg h, this]; rfl
attribute [go_sem] cond_true cond_false
@[go_sem] theorem beq_tt (b : Bool) : (b == true) = b := by cases b <;> rfl
@[go_sem] theorem beq_ff (b : Bool) : (b == false) = !b := by cases b <;> rfl

section
variable {P : Program} {own : List Nat} {ops : List (Option Nat)} {rest : List Oper} {K : St -> Prop} {st : St} {dst : Option Nat} {ty : TypeId} {pos : String} {aft : Array Edge}
@[go_sem] theorem awpL_nil : z2b P own ops [] K st = K st := rfl
@[go_sem] theorem awpD_nil : z2s P own ops [] K st = K st := rfl
def zet (ops : List (Option Nat)) (st : St) (j : Nat) (want : Bool) : Option Bool :=
 match (ops[j]?).bind id with
 | some i => match st.t i with
  | .bool b => some (b == want)
  | .tup _ => some false
  | _ => none
 | none => none
attribute [go_sem] zet
@[go_sem] theorem awpL_guard {op : Op} {j : Nat} {want : Bool} : z2b P own ops (⟨dst, op, ty, pos, aft, some (j, want)⟩ :: rest) K st = zvc (zet ops st j want) (z2b P own ops) ⟨dst, op, ty, pos, aft, none⟩ rest K st := by
 have h : zcj ops st ⟨dst, op, ty, pos, aft, some (j, want)⟩ = zet ops st j want := rfl
 have h2 : zcj ops st ⟨dst, op, ty, pos, aft, none⟩ = some true := rfl
 simp only [z2b, h, h2]
 cases zet ops st j want with
 | none => rfl
 | some g => cases g <;> rfl
@[go_sem] theorem awpD_guard {op : Op} {j : Nat} {want : Bool} : z2s P own ops (⟨dst, op, ty, pos, aft, some (j, want)⟩ :: rest) K st = zvc (zet ops st j want) (z2s P own ops) ⟨dst, op, ty, pos, aft, none⟩ rest K st := by
 have h : zcj ops st ⟨dst, op, ty, pos, aft, some (j, want)⟩ = zet ops st j want := rfl
 have h2 : zcj ops st ⟨dst, op, ty, pos, aft, none⟩ = some true := rfl
 simp only [z2s, h, h2]
 cases zet ops st j want with
 | none => rfl
 | some g => cases g <;> rfl
@[go_sem] theorem awpL_move {x : Operand} : z2b P own ops (⟨dst, .move x, ty, pos, aft, none⟩ :: rest) K st = z2b P own ops rest K (st.put dst (st.ev x)) := by
 rfl
@[go_sem] theorem awpD_move {x : Operand} : z2s P own ops (⟨dst, .move x, ty, pos, aft, none⟩ :: rest) K st = z2s P own ops rest K (st.put dst (st.ev x)) := by
 rfl
@[go_sem] theorem awpL_assign {x : Operand} : z2b P own ops (⟨dst, .assign x, ty, pos, aft, none⟩ :: rest) K st = zfs (z7t P own dst ty st (st.ev x)) (z2b P own ops) rest K st dst := by
 show (match opR P own ⟨dst, .assign x, ty, pos, aft, none⟩ st with | some (d, H, nx) => z2b P own ops rest K ({ st with H := H, nx := nx }.put dst d) | none => False) = _
 have h : opR P own ⟨dst, .assign x, ty, pos, aft, none⟩ st = z7t P own dst ty st (st.ev x) := by
  first | rfl | (simp only [opR, z7t]; split <;> rfl)
 rw [h]; cases (z7t P own dst ty st (st.ev x)) <;> rfl
@[go_sem] theorem awpD_assign {x : Operand} : z2s P own ops (⟨dst, .assign x, ty, pos, aft, none⟩ :: rest) K st = zfs (z7t P own dst ty st (st.ev x)) (z2s P own ops) rest K st dst := by
 show (match opR P own ⟨dst, .assign x, ty, pos, aft, none⟩ st with | some (d, H, nx) => z2s P own ops rest K ({ st with H := H, nx := nx }.put dst d) | none => False) = _
 have h : opR P own ⟨dst, .assign x, ty, pos, aft, none⟩ st = z7t P own dst ty st (st.ev x) := by
  first | rfl | (simp only [opR, z7t]; split <;> rfl)
 rw [h]; cases (z7t P own dst ty st (st.ev x)) <;> rfl
@[go_sem] theorem awpL_pick {c a b : Operand} : z2b P own ops (⟨dst, .pick c a b, ty, pos, aft, none⟩ :: rest) K st = z45 (zfv (st.ev c) (st.ev a) (st.ev b)) (z2b P own ops) rest K st dst := by
 show (match opR P own ⟨dst, .pick c a b, ty, pos, aft, none⟩ st with | some (d, H, nx) => z2b P own ops rest K ({ st with H := H, nx := nx }.put dst d) | none => False) = _
 have h : opR P own ⟨dst, .pick c a b, ty, pos, aft, none⟩ st = st.keep (zfv (st.ev c) (st.ev a) (st.ev b)) := by
  first | rfl | simp only [opR]
 rw [h]; cases (zfv (st.ev c) (st.ev a) (st.ev b)) <;> rfl
@[go_sem] theorem awpD_pick {c a b : Operand} : z2s P own ops (⟨dst, .pick c a b, ty, pos, aft, none⟩ :: rest) K st = z45 (zfv (st.ev c) (st.ev a) (st.ev b)) (z2s P own ops) rest K st dst := by
 show (match opR P own ⟨dst, .pick c a b, ty, pos, aft, none⟩ st with | some (d, H, nx) => z2s P own ops rest K ({ st with H := H, nx := nx }.put dst d) | none => False) = _
 have h : opR P own ⟨dst, .pick c a b, ty, pos, aft, none⟩ st = st.keep (zfv (st.ev c) (st.ev a) (st.ev b)) := by
  first | rfl | simp only [opR]
 rw [h]; cases (zfv (st.ev c) (st.ev a) (st.ev b)) <;> rfl
@[go_sem] theorem awpL_alloc {e : TypeId} : z2b P own ops (⟨dst, .alloc e, ty, pos, aft, none⟩ :: rest) K st = zfk e (z17 P e) (z2b P own ops) rest K st dst := by
 show (match opR P own ⟨dst, .alloc e, ty, pos, aft, none⟩ st with | some (d, H, nx) => z2b P own ops rest K ({ st with H := H, nx := nx }.put dst d) | none => False) = _
 have h : opR P own ⟨dst, .alloc e, ty, pos, aft, none⟩ st = (z17 P e).map fun x => (.ptr st.nx 0, z1f st.H st.nx (some (.box e x)), st.nx + 1) := by rfl
 rw [h]; cases (z17 P e) <;> rfl
@[go_sem] theorem awpD_alloc {e : TypeId} : z2s P own ops (⟨dst, .alloc e, ty, pos, aft, none⟩ :: rest) K st = z9j (okA own dst st) (zfk e (z17 P e) (z2s P own ops) rest K st dst) := by
 show (match opR P own ⟨dst, .alloc e, ty, pos, aft, none⟩ st with | some (d, H, nx) => z9j (okA own dst st) (z2s P own ops rest K ({ st with H := H, nx := nx }.put dst d)) | none => False) = _
 have h : opR P own ⟨dst, .alloc e, ty, pos, aft, none⟩ st = (z17 P e).map fun x => (.ptr st.nx 0, z1f st.H st.nx (some (.box e x)), st.nx + 1) := by rfl
 rw [h]; cases (z17 P e) <;> first | exact (z75 _).symm | rfl
@[go_sem] theorem awpL_box {e : TypeId} {x : Operand} : z2b P own ops (⟨dst, .box e x, ty, pos, aft, none⟩ :: rest) K st = zfk e (z4k (st.ev x)) (z2b P own ops) rest K st dst := by
 show (match opR P own ⟨dst, .box e x, ty, pos, aft, none⟩ st with | some (d, H, nx) => z2b P own ops rest K ({ st with H := H, nx := nx }.put dst d) | none => False) = _
 have h : opR P own ⟨dst, .box e x, ty, pos, aft, none⟩ st = (z4k (st.ev x)).map fun x => (.ptr st.nx 0, z1f st.H st.nx (some (.box e x)), st.nx + 1) := by rfl
 rw [h]; cases (z4k (st.ev x)) <;> rfl
@[go_sem] theorem awpL_build {t : TypeId} {parts : Array (Nat × Operand)} : z2b P own ops (⟨dst, .build t parts, ty, pos, aft, none⟩ :: rest) K st = z45 (z86 P t (parts.toList.map fun (i, x) => (i, st.ev x))) (z2b P own ops) rest K st dst := by
 show (match opR P own ⟨dst, .build t parts, ty, pos, aft, none⟩ st with | some (d, H, nx) => z2b P own ops rest K ({ st with H := H, nx := nx }.put dst d) | none => False) = _
 have h : opR P own ⟨dst, .build t parts, ty, pos, aft, none⟩ st = st.keep (z86 P t (parts.toList.map fun (i, x) => (i, st.ev x))) := by
  first | rfl | simp only [opR]
 rw [h]; cases (z86 P t (parts.toList.map fun (i, x) => (i, st.ev x))) <;> rfl
@[go_sem] theorem awpD_build {t : TypeId} {parts : Array (Nat × Operand)} : z2s P own ops (⟨dst, .build t parts, ty, pos, aft, none⟩ :: rest) K st = z45 (z86 P t (parts.toList.map fun (i, x) => (i, st.ev x))) (z2s P own ops) rest K st dst := by
 show (match opR P own ⟨dst, .build t parts, ty, pos, aft, none⟩ st with | some (d, H, nx) => z2s P own ops rest K ({ st with H := H, nx := nx }.put dst d) | none => False) = _
 have h : opR P own ⟨dst, .build t parts, ty, pos, aft, none⟩ st = st.keep (z86 P t (parts.toList.map fun (i, x) => (i, st.ev x))) := by
  first | rfl | simp only [opR]
 rw [h]; cases (z86 P t (parts.toList.map fun (i, x) => (i, st.ev x))) <;> rfl
@[go_sem] theorem zvd {t : TypeId} {len : Nat} {parts : Array (Nat × Operand)} : z2b P own ops (⟨dst, .buildSlice t len parts, ty, pos, aft, none⟩ :: rest) K st = zfs (z30 P own dst st t len (parts.toList.map (·.1)) (parts.toList.map fun x => st.ev x.2)) (z2b P own ops) rest K st dst := by
 show (match opR P own ⟨dst, .buildSlice t len parts, ty, pos, aft, none⟩ st with | some (d, H, nx) => z2b P own ops rest K ({ st with H := H, nx := nx }.put dst d) | none => False) = _
 have h : opR P own ⟨dst, .buildSlice t len parts, ty, pos, aft, none⟩ st = z30 P own dst st t len (parts.toList.map (·.1)) (parts.toList.map fun x => st.ev x.2) := by
  first | rfl | (simp only [opR, z30])
 rw [h]; cases (z30 P own dst st t len (parts.toList.map (·.1)) (parts.toList.map fun x => st.ev x.2)) <;> rfl
@[go_sem] theorem zve {t : TypeId} {len : Nat} {parts : Array (Nat × Operand)} : z2s P own ops (⟨dst, .buildSlice t len parts, ty, pos, aft, none⟩ :: rest) K st = z9j (okS own dst st) (zfs (z30 P own dst st t len (parts.toList.map (·.1)) (parts.toList.map fun x => st.ev x.2)) (z2s P own ops) rest K st dst) := by
 show (match opR P own ⟨dst, .buildSlice t len parts, ty, pos, aft, none⟩ st with | some (d, H, nx) => z9j (okS own dst st) (z2s P own ops rest K ({ st with H := H, nx := nx }.put dst d)) | none => False) = _
 have h : opR P own ⟨dst, .buildSlice t len parts, ty, pos, aft, none⟩ st = z30 P own dst st t len (parts.toList.map (·.1)) (parts.toList.map fun x => st.ev x.2) := by
  first | rfl | (simp only [opR, z30])
 rw [h]; cases (z30 P own dst st t len (parts.toList.map (·.1)) (parts.toList.map fun x => st.ev x.2)) <;> first | exact (z75 _).symm | rfl
@[go_sem] theorem awpL_load {t : TypeId} {p : Operand} : z2b P own ops (⟨dst, .load t p, ty, pos, aft, none⟩ :: rest) K st = z45 (zaa P own dst st.H st.nx t (st.ev p)) (z2b P own ops) rest K st dst := by
 show (match opR P own ⟨dst, .load t p, ty, pos, aft, none⟩ st with | some (d, H, nx) => z2b P own ops rest K ({ st with H := H, nx := nx }.put dst d) | none => False) = _
 have h : opR P own ⟨dst, .load t p, ty, pos, aft, none⟩ st = st.keep (zaa P own dst st.H st.nx t (st.ev p)) := by
  first | rfl | simp only [opR]
 rw [h]; cases (zaa P own dst st.H st.nx t (st.ev p)) <;> rfl
@[go_sem] theorem awpD_load {t : TypeId} {p : Operand} : z2s P own ops (⟨dst, .load t p, ty, pos, aft, none⟩ :: rest) K st = z9j (okT own dst (st.ev p) && okU own dst (st.ev p) && okG own dst st.nx (st.ev p)) (z45 (zaa P own dst st.H st.nx t (st.ev p)) (z2s P own ops) rest K st dst) := by
 show (match opR P own ⟨dst, .load t p, ty, pos, aft, none⟩ st with | some (d, H, nx) => z9j (okT own dst (st.ev p) && okU own dst (st.ev p) && okG own dst st.nx (st.ev p)) (z2s P own ops rest K ({ st with H := H, nx := nx }.put dst d)) | none => False) = _
 have h : opR P own ⟨dst, .load t p, ty, pos, aft, none⟩ st = st.keep (zaa P own dst st.H st.nx t (st.ev p)) := by
  first | rfl | simp only [opR]
 rw [h]; cases (zaa P own dst st.H st.nx t (st.ev p)) <;> first | exact (z75 _).symm | rfl
@[go_sem] theorem awpL_store {t : TypeId} {p v : Operand} : z2b P own ops (⟨dst, .store t p v, ty, pos, aft, none⟩ :: rest) K st = zy8 (z5f P st.H t (st.ev p) (st.ev v)) (z2b P own ops) rest K st dst := by
 show (match opR P own ⟨dst, .store t p v, ty, pos, aft, none⟩ st with | some (d, H, nx) => z2b P own ops rest K ({ st with H := H, nx := nx }.put dst d) | none => False) = _
 have h : opR P own ⟨dst, .store t p v, ty, pos, aft, none⟩ st = (z5f P st.H t (st.ev p) (st.ev v)).map fun x => (.any, x, st.nx) := by rfl
 rw [h]; cases (z5f P st.H t (st.ev p) (st.ev v)) <;> rfl
@[go_sem] theorem awpD_store {t : TypeId} {p v : Operand} : z2s P own ops (⟨dst, .store t p v, ty, pos, aft, none⟩ :: rest) K st = z9j (okT own (zk0 p) (st.ev p)) (zy8 (z5f P st.H t (st.ev p) (st.ev v)) (z2s P own ops) rest K st dst) := by
 show (match opR P own ⟨dst, .store t p v, ty, pos, aft, none⟩ st with | some (d, H, nx) => z9j (okT own (zk0 p) (st.ev p)) (z2s P own ops rest K ({ st with H := H, nx := nx }.put dst d)) | none => False) = _
 have h : opR P own ⟨dst, .store t p v, ty, pos, aft, none⟩ st = (z5f P st.H t (st.ev p) (st.ev v)).map fun x => (.any, x, st.nx) := by rfl
 rw [h]; cases (z5f P st.H t (st.ev p) (st.ev v)) <;> first | exact (z75 _).symm | rfl
@[go_sem] theorem zzi {t : TypeId} : z2b P own ops (⟨dst, .makeMap t none, ty, pos, aft, none⟩ :: rest) K st = zfs ((z3i P t).map fun _ => (.mp st.nx, z1f st.H st.nx (some (.map [])), st.nx + 1)) (z2b P own ops) rest K st dst := by
 show (match opR P own ⟨dst, .makeMap t none, ty, pos, aft, none⟩ st with | some (d, H, nx) => z2b P own ops rest K ({ st with H := H, nx := nx }.put dst d) | none => False) = _
 have h : opR P own ⟨dst, .makeMap t none, ty, pos, aft, none⟩ st = (z3i P t).map fun _ => (.mp st.nx, z1f st.H st.nx (some (.map [])), st.nx + 1) := by rfl
 rw [h]
 cases z3i P t <;> rfl
@[go_sem] theorem awpL_range {t : TypeId} {x : Operand} : z2b P own ops (⟨dst, .range t x, ty, pos, aft, none⟩ :: rest) K st = zfs ((zf6 P t (st.ev x)).map fun q => (.it st.nx, z1f st.H st.nx (some (.raw q)), st.nx + 1)) (z2b P own ops) rest K st dst := by
 show (match opR P own ⟨dst, .range t x, ty, pos, aft, none⟩ st with | some (d, H, nx) => z2b P own ops rest K ({ st with H := H, nx := nx }.put dst d) | none => False) = _
 have h : opR P own ⟨dst, .range t x, ty, pos, aft, none⟩ st = (zf6 P t (st.ev x)).map fun q => (.it st.nx, z1f st.H st.nx (some (.raw q)), st.nx + 1) := by rfl
 rw [h]
 cases zf6 P t (st.ev x) <;> rfl
@[go_sem] theorem awpL_next {x : Operand} {b : Bool} : z2b P own ops (⟨dst, .next x b, ty, pos, aft, none⟩ :: rest) K st = zfs (zmi st.H st.nx b (st.ev x)) (z2b P own ops) rest K st dst := by
 show (match opR P own ⟨dst, .next x b, ty, pos, aft, none⟩ st with | some (d, H, nx) => z2b P own ops rest K ({ st with H := H, nx := nx }.put dst d) | none => False) = _
 have h : opR P own ⟨dst, .next x b, ty, pos, aft, none⟩ st = zmi st.H st.nx b (st.ev x) := by rfl
 rw [h]
 rcases zmi st.H st.nx b (st.ev x) with _ | ⟨d, H, nx⟩ <;> rfl
@[go_sem] theorem awpL_lookup {t : TypeId} {x k : Operand} {ok : Bool} : z2b P own ops (⟨dst, .lookup t x k ok, ty, pos, aft, none⟩ :: rest) K st = z45 (z6q P st.H t (st.ev x) (st.ev k) ok) (z2b P own ops) rest K st dst := by
 show (match opR P own ⟨dst, .lookup t x k ok, ty, pos, aft, none⟩ st with | some (d, H, nx) => z2b P own ops rest K ({ st with H := H, nx := nx }.put dst d) | none => False) = _
 have h : opR P own ⟨dst, .lookup t x k ok, ty, pos, aft, none⟩ st = st.keep (z6q P st.H t (st.ev x) (st.ev k) ok) := by rfl
 rw [h]
 cases z6q P st.H t (st.ev x) (st.ev k) ok <;> rfl
@[go_sem] theorem awpD_lookup {t : TypeId} {x k : Operand} {ok : Bool} : z2s P own ops (⟨dst, .lookup t x k ok, ty, pos, aft, none⟩ :: rest) K st = z45 (z6q P st.H t (st.ev x) (st.ev k) ok) (z2s P own ops) rest K st dst := by
 show (match opR P own ⟨dst, .lookup t x k ok, ty, pos, aft, none⟩ st with | some (d, H, nx) => z2s P own ops rest K ({ st with H := H, nx := nx }.put dst d) | none => False) = _
 have h : opR P own ⟨dst, .lookup t x k ok, ty, pos, aft, none⟩ st = st.keep (z6q P st.H t (st.ev x) (st.ev k) ok) := by rfl
 rw [h]
 cases z6q P st.H t (st.ev x) (st.ev k) ok <;> rfl
@[go_sem] theorem awpL_insert {t : TypeId} {m k x : Operand} : z2b P own ops (⟨dst, .insert t m k x, ty, pos, aft, none⟩ :: rest) K st = zy8 (z8z P st.H t (st.ev m) (st.ev k) (st.ev x)) (z2b P own ops) rest K st dst := by
 show (match opR P own ⟨dst, .insert t m k x, ty, pos, aft, none⟩ st with | some (d, H, nx) => z2b P own ops rest K ({ st with H := H, nx := nx }.put dst d) | none => False) = _
 have h : opR P own ⟨dst, .insert t m k x, ty, pos, aft, none⟩ st = (z8z P st.H t (st.ev m) (st.ev k) (st.ev x)).map fun x => (.any, x, st.nx) := by rfl
 rw [h]
 cases z8z P st.H t (st.ev m) (st.ev k) (st.ev x) <;> rfl
@[go_sem] theorem awpL_binOp {op : BinOp} {t u : TypeId} {x y : Operand} : z2b P own ops (⟨dst, .binOp op t x y u, ty, pos, aft, none⟩ :: rest) K st = z45 (zrb P op t (st.ev x) (st.ev y)) (z2b P own ops) rest K st dst := by
 show (match opR P own ⟨dst, .binOp op t x y u, ty, pos, aft, none⟩ st with | some (d, H, nx) => z2b P own ops rest K ({ st with H := H, nx := nx }.put dst d) | none => False) = _
 have h : opR P own ⟨dst, .binOp op t x y u, ty, pos, aft, none⟩ st = st.keep (zrb P op t (st.ev x) (st.ev y)) := by
  first | rfl | simp only [opR]
 rw [h]; cases (zrb P op t (st.ev x) (st.ev y)) <;> rfl
@[go_sem] theorem awpD_binOp {op : BinOp} {t u : TypeId} {x y : Operand} : z2s P own ops (⟨dst, .binOp op t x y u, ty, pos, aft, none⟩ :: rest) K st = z45 (zrb P op t (st.ev x) (st.ev y)) (z2s P own ops) rest K st dst := by
 show (match opR P own ⟨dst, .binOp op t x y u, ty, pos, aft, none⟩ st with | some (d, H, nx) => z2s P own ops rest K ({ st with H := H, nx := nx }.put dst d) | none => False) = _
 have h : opR P own ⟨dst, .binOp op t x y u, ty, pos, aft, none⟩ st = st.keep (zrb P op t (st.ev x) (st.ev y)) := by
  first | rfl | simp only [opR]
 rw [h]; cases (zrb P op t (st.ev x) (st.ev y)) <;> rfl
@[go_sem] theorem awpL_unOp {op : UnOp} {t : TypeId} {x : Operand} : z2b P own ops (⟨dst, .unOp op t x, ty, pos, aft, none⟩ :: rest) K st = z45 (unD op (st.ev x)) (z2b P own ops) rest K st dst := by
 show (match opR P own ⟨dst, .unOp op t x, ty, pos, aft, none⟩ st with | some (d, H, nx) => z2b P own ops rest K ({ st with H := H, nx := nx }.put dst d) | none => False) = _
 have h : opR P own ⟨dst, .unOp op t x, ty, pos, aft, none⟩ st = st.keep (unD op (st.ev x)) := by
  first | rfl | simp only [opR]
 rw [h]; cases (unD op (st.ev x)) <;> rfl
@[go_sem] theorem awpD_unOp {op : UnOp} {t : TypeId} {x : Operand} : z2s P own ops (⟨dst, .unOp op t x, ty, pos, aft, none⟩ :: rest) K st = z45 (unD op (st.ev x)) (z2s P own ops) rest K st dst := by
 show (match opR P own ⟨dst, .unOp op t x, ty, pos, aft, none⟩ st with | some (d, H, nx) => z2s P own ops rest K ({ st with H := H, nx := nx }.put dst d) | none => False) = _
 have h : opR P own ⟨dst, .unOp op t x, ty, pos, aft, none⟩ st = st.keep (unD op (st.ev x)) := by
  first | rfl | simp only [opR]
 rw [h]; cases (unD op (st.ev x)) <;> rfl
@[go_sem] theorem zy9 {f : FuncId} {cap : Array Operand} : z2b P own ops (⟨dst, .makeFunc (.func f) #[] cap, ty, pos, aft, none⟩ :: rest) K st = z2b P own ops rest K (st.put dst (.fn f (cap.toList.map st.ev))) := by
 rfl
@[go_sem] theorem zya {f : FuncId} {x : Operand} {l : List Operand} : z2b P own ops (⟨dst, .makeFunc (.func f) (x :: l).toArray #[], ty, pos, aft, none⟩ :: rest) K st = z2b P own ops rest K (st.put dst (.bfn f ((x :: l).map st.ev))) := by
 rfl
@[go_sem] theorem awpL_slice {t : TypeId} {x : Operand} {lo hi : Option Operand} : z2b P own ops (⟨dst, .slice t x lo hi none, ty, pos, aft, none⟩ :: rest) K st = z45 (z9r P t (st.ev x) (lo.map st.ev) (hi.map st.ev)) (z2b P own ops) rest K st dst := by
 show (match opR P own ⟨dst, .slice t x lo hi none, ty, pos, aft, none⟩ st with | some (d, H, nx) => z2b P own ops rest K ({ st with H := H, nx := nx }.put dst d) | none => False) = _
 have h : opR P own ⟨dst, .slice t x lo hi none, ty, pos, aft, none⟩ st = st.keep (z9r P t (st.ev x) (lo.map st.ev) (hi.map st.ev)) := by
  first | rfl | simp only [opR]
 rw [h]; cases (z9r P t (st.ev x) (lo.map st.ev) (hi.map st.ev)) <;> rfl
@[go_sem] theorem awpD_slice {t : TypeId} {x : Operand} {lo hi : Option Operand} : z2s P own ops (⟨dst, .slice t x lo hi none, ty, pos, aft, none⟩ :: rest) K st = z45 (z9r P t (st.ev x) (lo.map st.ev) (hi.map st.ev)) (z2s P own ops) rest K st dst := by
 show (match opR P own ⟨dst, .slice t x lo hi none, ty, pos, aft, none⟩ st with | some (d, H, nx) => z2s P own ops rest K ({ st with H := H, nx := nx }.put dst d) | none => False) = _
 have h : opR P own ⟨dst, .slice t x lo hi none, ty, pos, aft, none⟩ st = st.keep (z9r P t (st.ev x) (lo.map st.ev) (hi.map st.ev)) := by
  first | rfl | simp only [opR]
 rw [h]; cases (z9r P t (st.ev x) (lo.map st.ev) (hi.map st.ev)) <;> rfl
@[go_sem] theorem awpL_slice3 {t : TypeId} {x m : Operand} {lo hi : Option Operand} : z2b P own ops (⟨dst, .slice t x lo hi (some m), ty, pos, aft, none⟩ :: rest) K st = z45 (z5a P t (st.ev x) (lo.map st.ev) (hi.map st.ev) (st.ev m)) (z2b P own ops) rest K st dst := by
 show (match opR P own ⟨dst, .slice t x lo hi (some m), ty, pos, aft, none⟩ st with | some (d, H, nx) => z2b P own ops rest K ({ st with H := H, nx := nx }.put dst d) | none => False) = _
 have h : opR P own ⟨dst, .slice t x lo hi (some m), ty, pos, aft, none⟩ st = st.keep (z5a P t (st.ev x) (lo.map st.ev) (hi.map st.ev) (st.ev m)) := by
  first | rfl | simp only [opR]
 rw [h]; cases (z5a P t (st.ev x) (lo.map st.ev) (hi.map st.ev) (st.ev m)) <;> rfl
@[go_sem] theorem awpD_slice3 {t : TypeId} {x m : Operand} {lo hi : Option Operand} : z2s P own ops (⟨dst, .slice t x lo hi (some m), ty, pos, aft, none⟩ :: rest) K st = z45 (z5a P t (st.ev x) (lo.map st.ev) (hi.map st.ev) (st.ev m)) (z2s P own ops) rest K st dst := by
 show (match opR P own ⟨dst, .slice t x lo hi (some m), ty, pos, aft, none⟩ st with | some (d, H, nx) => z2s P own ops rest K ({ st with H := H, nx := nx }.put dst d) | none => False) = _
 have h : opR P own ⟨dst, .slice t x lo hi (some m), ty, pos, aft, none⟩ st = st.keep (z5a P t (st.ev x) (lo.map st.ev) (hi.map st.ev) (st.ev m)) := by
  first | rfl | simp only [opR]
 rw [h]; cases (z5a P t (st.ev x) (lo.map st.ev) (hi.map st.ev) (st.ev m)) <;> rfl
@[go_sem] theorem zw7 {t : TypeId} {x : Operand} {f : Nat} : z2b P own ops (⟨dst, .fieldAddr t x f, ty, pos, aft, none⟩ :: rest) K st = z45 (z37 P t (st.ev x) f) (z2b P own ops) rest K st dst := by
 show (match opR P own ⟨dst, .fieldAddr t x f, ty, pos, aft, none⟩ st with | some (d, H, nx) => z2b P own ops rest K ({ st with H := H, nx := nx }.put dst d) | none => False) = _
 have h : opR P own ⟨dst, .fieldAddr t x f, ty, pos, aft, none⟩ st = st.keep (z37 P t (st.ev x) f) := by
  first | rfl | simp only [opR]
 rw [h]; cases (z37 P t (st.ev x) f) <;> rfl
@[go_sem] theorem zw8 {t : TypeId} {x : Operand} {f : Nat} : z2s P own ops (⟨dst, .fieldAddr t x f, ty, pos, aft, none⟩ :: rest) K st = z45 (z37 P t (st.ev x) f) (z2s P own ops) rest K st dst := by
 show (match opR P own ⟨dst, .fieldAddr t x f, ty, pos, aft, none⟩ st with | some (d, H, nx) => z2s P own ops rest K ({ st with H := H, nx := nx }.put dst d) | none => False) = _
 have h : opR P own ⟨dst, .fieldAddr t x f, ty, pos, aft, none⟩ st = st.keep (z37 P t (st.ev x) f) := by
  first | rfl | simp only [opR]
 rw [h]; cases (z37 P t (st.ev x) f) <;> rfl
@[go_sem] theorem zw9 {t : TypeId} {x i : Operand} : z2b P own ops (⟨dst, .indexAddr t x i, ty, pos, aft, none⟩ :: rest) K st = z45 (z0p P (hmG own dst st.H) t (st.ev x) (st.ev i)) (z2b P own ops) rest K st dst := by
 show (match opR P own ⟨dst, .indexAddr t x i, ty, pos, aft, none⟩ st with | some (d, H, nx) => z2b P own ops rest K ({ st with H := H, nx := nx }.put dst d) | none => False) = _
 have h : opR P own ⟨dst, .indexAddr t x i, ty, pos, aft, none⟩ st = st.keep (z0p P (hmG own dst st.H) t (st.ev x) (st.ev i)) := by
  first | rfl | simp only [opR]
 rw [h]; cases (z0p P (hmG own dst st.H) t (st.ev x) (st.ev i)) <;> rfl
@[go_sem] theorem zwa {t : TypeId} {x i : Operand} : z2s P own ops (⟨dst, .indexAddr t x i, ty, pos, aft, none⟩ :: rest) K st = z9j (okT own dst (st.ev x) && okU own dst (st.ev x) && okG own dst st.nx (st.ev x)) (z45 (z0p P (hmG own dst st.H) t (st.ev x) (st.ev i)) (z2s P own ops) rest K st dst) := by
 show (match opR P own ⟨dst, .indexAddr t x i, ty, pos, aft, none⟩ st with | some (d, H, nx) => z9j (okT own dst (st.ev x) && okU own dst (st.ev x) && okG own dst st.nx (st.ev x)) (z2s P own ops rest K ({ st with H := H, nx := nx }.put dst d)) | none => False) = _
 have h : opR P own ⟨dst, .indexAddr t x i, ty, pos, aft, none⟩ st = st.keep (z0p P (hmG own dst st.H) t (st.ev x) (st.ev i)) := by
  first | rfl | simp only [opR]
 rw [h]; cases (z0p P (hmG own dst st.H) t (st.ev x) (st.ev i)) <;> first | exact (z75 _).symm | rfl
@[go_sem] theorem awpL_index {t : TypeId} {x i : Operand} : z2b P own ops (⟨dst, .index t x i, ty, pos, aft, none⟩ :: rest) K st = z45 (z9q P t (st.ev x) (st.ev i)) (z2b P own ops) rest K st dst := by
 show (match opR P own ⟨dst, .index t x i, ty, pos, aft, none⟩ st with | some (d, H, nx) => z2b P own ops rest K ({ st with H := H, nx := nx }.put dst d) | none => False) = _
 have h : opR P own ⟨dst, .index t x i, ty, pos, aft, none⟩ st = st.keep (z9q P t (st.ev x) (st.ev i)) := by
  first | rfl | simp only [opR]
 rw [h]; cases (z9q P t (st.ev x) (st.ev i)) <;> rfl
@[go_sem] theorem awpD_index {t : TypeId} {x i : Operand} : z2s P own ops (⟨dst, .index t x i, ty, pos, aft, none⟩ :: rest) K st = z45 (z9q P t (st.ev x) (st.ev i)) (z2s P own ops) rest K st dst := by
 show (match opR P own ⟨dst, .index t x i, ty, pos, aft, none⟩ st with | some (d, H, nx) => z2s P own ops rest K ({ st with H := H, nx := nx }.put dst d) | none => False) = _
 have h : opR P own ⟨dst, .index t x i, ty, pos, aft, none⟩ st = st.keep (z9q P t (st.ev x) (st.ev i)) := by
  first | rfl | simp only [opR]
 rw [h]; cases (z9q P t (st.ev x) (st.ev i)) <;> rfl
@[go_sem] theorem zzj {x : Operand} {i : Nat} : z2b P own ops (⟨dst, .extract x i, ty, pos, aft, none⟩ :: rest) K st = z45 (z5o (st.ev x) i) (z2b P own ops) rest K st dst := by
 show (match opR P own ⟨dst, .extract x i, ty, pos, aft, none⟩ st with | some (d, H, nx) => z2b P own ops rest K ({ st with H := H, nx := nx }.put dst d) | none => False) = _
 have h : opR P own ⟨dst, .extract x i, ty, pos, aft, none⟩ st = st.keep (z5o (st.ev x) i) := by
  simp only [opR, z5o]; generalize st.ev x = v; cases v <;> rfl
 rw [h]; cases (z5o (st.ev x) i) <;> rfl
@[go_sem] theorem zzk {x : Operand} {i : Nat} : z2s P own ops (⟨dst, .extract x i, ty, pos, aft, none⟩ :: rest) K st = z45 (z5o (st.ev x) i) (z2s P own ops) rest K st dst := by
 show (match opR P own ⟨dst, .extract x i, ty, pos, aft, none⟩ st with | some (d, H, nx) => z2s P own ops rest K ({ st with H := H, nx := nx }.put dst d) | none => False) = _
 have h : opR P own ⟨dst, .extract x i, ty, pos, aft, none⟩ st = st.keep (z5o (st.ev x) i) := by
  simp only [opR, z5o]; generalize st.ev x = v; cases v <;> rfl
 rw [h]; cases (z5o (st.ev x) i) <;> rfl
@[go_sem] theorem zyb {x : Operand} : z2b P own ops (⟨dst, .nilCheck x, ty, pos, aft, none⟩ :: rest) K st = z45 (z4i (st.ev x)) (z2b P own ops) rest K st dst := by
 show (match opR P own ⟨dst, .nilCheck x, ty, pos, aft, none⟩ st with | some (d, H, nx) => z2b P own ops rest K ({ st with H := H, nx := nx }.put dst d) | none => False) = _
 have h : opR P own ⟨dst, .nilCheck x, ty, pos, aft, none⟩ st = st.keep (z4i (st.ev x)) := by
  simp only [opR, z4i]; generalize st.ev x = v; cases v <;> rfl
 rw [h]; cases (z4i (st.ev x)) <;> rfl
@[go_sem] theorem zyc {x : Operand} : z2s P own ops (⟨dst, .nilCheck x, ty, pos, aft, none⟩ :: rest) K st = z45 (z4i (st.ev x)) (z2s P own ops) rest K st dst := by
 show (match opR P own ⟨dst, .nilCheck x, ty, pos, aft, none⟩ st with | some (d, H, nx) => z2s P own ops rest K ({ st with H := H, nx := nx }.put dst d) | none => False) = _
 have h : opR P own ⟨dst, .nilCheck x, ty, pos, aft, none⟩ st = st.keep (z4i (st.ev x)) := by
  simp only [opR, z4i]; generalize st.ev x = v; cases v <;> rfl
 rw [h]; cases (z4i (st.ev x)) <;> rfl
@[go_sem] theorem awpL_len {x : Operand} {t : TypeId} : z2b P own ops (⟨dst, .call ⟨.builtin .len, #[x], #[t]⟩, ty, pos, aft, none⟩ :: rest) K st = z45 (zrc P (hmG own dst st.H) t (st.ev x)) (z2b P own ops) rest K st dst := by
 show (match opR P own ⟨dst, .call ⟨.builtin .len, #[x], #[t]⟩, ty, pos, aft, none⟩ st with | some (d, H, nx) => z2b P own ops rest K ({ st with H := H, nx := nx }.put dst d) | none => False) = _
 have h : opR P own ⟨dst, .call ⟨.builtin .len, #[x], #[t]⟩, ty, pos, aft, none⟩ st = st.keep (zrc P (hmG own dst st.H) t (st.ev x)) := by
  first | rfl | simp only [opR]
 rw [h]; cases (zrc P (hmG own dst st.H) t (st.ev x)) <;> rfl
@[go_sem] theorem awpD_len {x : Operand} {t : TypeId} : z2s P own ops (⟨dst, .call ⟨.builtin .len, #[x], #[t]⟩, ty, pos, aft, none⟩ :: rest) K st = z45 (zrc P (hmG own dst st.H) t (st.ev x)) (z2s P own ops) rest K st dst := by
 show (match opR P own ⟨dst, .call ⟨.builtin .len, #[x], #[t]⟩, ty, pos, aft, none⟩ st with | some (d, H, nx) => z2s P own ops rest K ({ st with H := H, nx := nx }.put dst d) | none => False) = _
 have h : opR P own ⟨dst, .call ⟨.builtin .len, #[x], #[t]⟩, ty, pos, aft, none⟩ st = st.keep (zrc P (hmG own dst st.H) t (st.ev x)) := by
  first | rfl | simp only [opR]
 rw [h]; cases (zrc P (hmG own dst st.H) t (st.ev x)) <;> rfl
@[go_sem] theorem awpL_max {x y : Operand} {tys : Array TypeId} : z2b P own ops (⟨dst, .call ⟨.builtin .max, #[x, y], tys⟩, ty, pos, aft, none⟩ :: rest) K st = z45 (maxD (st.ev x) (st.ev y)) (z2b P own ops) rest K st dst := by
 show (match opR P own ⟨dst, .call ⟨.builtin .max, #[x, y], tys⟩, ty, pos, aft, none⟩ st with | some (d, H, nx) => z2b P own ops rest K ({ st with H := H, nx := nx }.put dst d) | none => False) = _
 have h : opR P own ⟨dst, .call ⟨.builtin .max, #[x, y], tys⟩, ty, pos, aft, none⟩ st = st.keep (maxD (st.ev x) (st.ev y)) := by
  first | rfl | simp only [opR]
 rw [h]; cases (maxD (st.ev x) (st.ev y)) <;> rfl
@[go_sem] theorem awpL_append {x y : Operand} {t : TypeId} : z2b P own ops (⟨dst, .call ⟨.builtin .append, #[x, y], #[t, t]⟩, ty, pos, aft, none⟩ :: rest) K st = zfs (z7u P own dst st t (st.ev x) (st.ev y)) (z2b P own ops) rest K st dst := by
 show (match opR P own ⟨dst, .call ⟨.builtin .append, #[x, y], #[t, t]⟩, ty, pos, aft, none⟩ st with | some (d, H, nx) => z2b P own ops rest K ({ st with H := H, nx := nx }.put dst d) | none => False) = _
 have h : opR P own ⟨dst, .call ⟨.builtin .append, #[x, y], #[t, t]⟩, ty, pos, aft, none⟩ st = z7u P own dst st t (st.ev x) (st.ev y) := by
  simp only [opR, if_true, z7u, St.keep]
 rw [h]; cases (z7u P own dst st t (st.ev x) (st.ev y)) <;> rfl
@[go_sem] theorem awpD_append {x y : Operand} {t : TypeId} : z2s P own ops (⟨dst, .call ⟨.builtin .append, #[x, y], #[t, t]⟩, ty, pos, aft, none⟩ :: rest) K st = z9j (okQ own dst st (st.ev x)) (zfs (z7u P own dst st t (st.ev x) (st.ev y)) (z2s P own ops) rest K st dst) := by
 show (match opR P own ⟨dst, .call ⟨.builtin .append, #[x, y], #[t, t]⟩, ty, pos, aft, none⟩ st with | some (d, H, nx) => z9j (okQ own dst st (st.ev x)) (z2s P own ops rest K ({ st with H := H, nx := nx }.put dst d)) | none => False) = _
 have h : opR P own ⟨dst, .call ⟨.builtin .append, #[x, y], #[t, t]⟩, ty, pos, aft, none⟩ st = z7u P own dst st t (st.ev x) (st.ev y) := by
  simp only [opR, if_true, z7u, St.keep]
 rw [h]; cases (z7u P own dst st t (st.ev x) (st.ev y)) <;> first | exact (z75 _).symm | rfl
def zq0 (P : Program) (f : D) (args : List D) (g : List Oper -> (St -> Prop) -> St -> Prop) (rest : List Oper) (K : St -> Prop) (st : St) (dst : Option Nat) : Prop :=
 match f with | .fn n cap => AC P n (args ++ cap) st.H st.nx fun r H nx => g rest K ((st.withH H nx).put dst r) | .bfn n first => AC P n (first ++ args) st.H st.nx fun r H nx => g rest K ((st.withH H nx).put dst r) | _ => False
def zyd (P : Program) (own : List Nat) (f : D) (args : List D) (g : List Oper -> (St -> Prop) -> St -> Prop) (rest : List Oper) (K : St -> Prop) (st : St) (dst : Option Nat) : Prop :=
 match f with | .fn n cap => (z0h 5000000 own dst = false /\ tcM own dst = none /\ ∃ r, RCF P own dst n (args ++ cap) st r /\ g rest K (st.put dst r)) \/
   (z0h 5000000 own dst = true /\ ∃ r, (∀ H nx, RC P n (args ++ cap) H nx r) /\ g rest K (st.put dst r)) \/
   (z0h 5000000 own dst = false /\ z0h 4000000 own dst = true /\ ∃ d H nx, AC P n (args ++ cap) st.H st.nx (fun r' H' nx' => r' = d /\ H' = H /\ nx' = nx) /\ zy1 P own dst n (args ++ cap) st.H st.nx st d H nx /\ g rest K ((st.withH H nx).put dst d)) | _ => False
@[go_sem] theorem awpL_call {f : Operand} {args : Array Operand} {tys : Array TypeId} : z2b P own ops (⟨dst, .call ⟨.value f, args, tys⟩, ty, pos, aft, none⟩ :: rest) K st = zq0 P (st.ev f) (args.toList.map st.ev) (z2b P own ops) rest K st dst := rfl
@[go_sem] theorem awpD_call {f : Operand} {args : Array Operand} {tys : Array TypeId} : z2s P own ops (⟨dst, .call ⟨.value f, args, tys⟩, ty, pos, aft, none⟩ :: rest) K st = zyd P own (st.ev f) (args.toList.map st.ev) (z2s P own ops) rest K st dst := rfl
variable {n : FuncId} {cap args : List D} {g : List Oper -> (St -> Prop) -> St -> Prop}
theorem zb6 (h : AC P n (args ++ cap) st.H st.nx fun r H nx => g rest K ((st.withH H nx).put dst r)) : zq0 P (.fn n cap) args g rest K st dst := h
theorem zye {r : D} (h : RC P n (args ++ cap) st.H st.nx r) (O : g rest K (st.put dst r)) : zq0 P (.fn n cap) args g rest K st dst := zb6 (RC.ac h O)
theorem zqs {r : D} (h : PC P n (args ++ cap) r) (O : g rest K (st.put dst r)) : zq0 P (.fn n cap) args g rest K st dst := zb6 (RC.ac (h.rc st.H st.nx) O)
theorem zqt {r : D} (h : PC P n (args ++ cap) r) (O : g rest K (st.put dst r)) (ht : tcM own dst = none := by rfl) : zyd P own (.fn n cap) args g rest K st dst := by
 cases h0 : z0h 5000000 own dst with
 | false => exact .inl ⟨h0, ht, r, ⟨h.rc st.H st.nx, fun _ H nx _ => h.rc H nx⟩, O⟩
 | true => exact .inr (.inl ⟨h0, r, fun H nx => h.rc H nx, O⟩)
end
end Go.Proofs.YtppebcifiejplaaGreatDoor.Abs
