/-
  Contracts over abstract values, and the walk of a function's code over abstract states, with its soundness but for regions that draw their order. No condition.
-/
import Derived.Test.YtjibdljdkgedcaaAbs9
import Derived.Orders
set_option linter.unusedSimpArgs false
set_option linter.unusedVariables false
namespace Go.Proofs.Ytjibdljdkgedcaa.Abs
open Go.RowKit
variable {P : Program}

def callable (P : Program) (f : FuncId) : Prop := ∃ fn, P.funcs[f]? = some fn ∧ (fn.name == "runtime.NumGoroutine") = false ∧ fn.body.isNone = false

/-- A contract: called with values that read as 'ds' where the owned objects are 'H', function f returns, with 'K' of the result and of the objects behind the call. -/
def AC (P : Program) (f : FuncId) (ds : List D) (H : HM) (nx : Nat) (K : D → HM → Nat → Prop) : Prop :=
  callable P f ∧ ∀ (s : RS) (w : World) (vs : List Value), s.H = H → s.nx = nx → RH P s w → relAll s ds vs →
    Calls P f vs.toArray w fun e w' => ∃ v r s', e = .returned v ∧ K r s'.H s'.nx ∧ Step s w s' w' ∧ RH P s' w' ∧ rel s' r v
theorem AC.mono {f : FuncId} {ds : List D} {H : HM} {nx : Nat} {K K' : D → HM → Nat → Prop} (h : AC P f ds H nx K) (hk : ∀ r H nx, K r H nx → K' r H nx) : AC P f ds H nx K' :=
  ⟨h.1, fun s w vs h1 h2 h3 h4 => (h.2 s w vs h1 h2 h3 h4).mono fun _ _ ⟨v, r, s', he, hr, rest⟩ => ⟨v, r, s', he, hk _ _ _ hr, rest⟩⟩
/-- It leaves the objects as they are. -/
def RC (P : Program) (f : FuncId) (ds : List D) (H : HM) (nx : Nat) (r : D) : Prop := AC P f ds H nx fun r' H' nx' => r' = r ∧ H' = H ∧ nx' = nx

/-- The frame holds what the abstract state says. -/
structure Fr (P : Program) (N : Nat) (st : St) (s : RS) (a : Act) (w : World) : Prop where
  H : s.H = st.H
  nx : s.nx = st.nx
  size : a.tmps.size = N
  defers : a.defers = []
  tmps : ∀ i, rel s (st.t i) (a.tmps.getD i undef)
  heap : RH P s w

theorem Fr.ev {N : Nat} {st : St} {s : RS} {a : Act} {w : World} (h : Fr P N st s a w) : ∀ x, rel s (st.ev x) (a.eval x)
  | .tmp t => h.tmps t
  | .const v => rel_ofVal s v
  | .global g => h.heap.glob g
  | .func f => by
    simp only [St.ev, Act.eval, rel]
    exact ⟨[], rfl, relAll_nil⟩

def dstOK (N : Nat) (o : Oper) : Bool :=
  match o.dst with
  | some i => decide (i < N)
  | none => true

theorem Fr.put {N : Nat} {st : St} {s s' : RS} {a : Act} {w w' : World} (h : Fr P N st s a w) (hl : Later s s') (hr : RH P s' w') {o : Oper} (ho : dstOK N o = true) {d : D} {v : Value} (hd : rel s' d v) {H : HM} {nx : Nat}
    (hH : s'.H = H) (hnx : s'.nx = nx) : Fr P N ({ st with H := H, nx := nx }.put o.dst d) s' (a.put o.dst v) w' := by
  cases hdst : o.dst with
  | none => exact ⟨hH, hnx, h.size, h.defers, fun i => rel.later hl _ _ (h.tmps i), hr⟩
  | some i =>
    simp only [dstOK, hdst, decide_eq_true_eq] at ho
    refine ⟨hH, hnx, by simp [Act.put, h.size], h.defers, fun j => ?_, hr⟩
    simp only [St.put, updT, Act.put]
    by_cases hj : j = i
    · subst hj
      have hlt : j < a.tmps.size := by rw [h.size]; exact ho
      simpa [Array.getD, hlt] using hd
    · rw [if_neg hj]
      have : (a.tmps.setIfInBounds i v).getD j undef = a.tmps.getD j undef := by
        simp only [Array.getD_eq_getD_getElem?]
        rw [Array.getElem?_setIfInBounds_ne (fun e => hj e.symm)]
      rw [this]
      exact rel.later hl _ _ (h.tmps j)
theorem Fr.put0 {N : Nat} {st : St} {s : RS} {a : Act} {w : World} (h : Fr P N st s a w) {o : Oper} (ho : dstOK N o = true) {d : D} {v : Value} (hd : rel s d v) : Fr P N (st.put o.dst d) s (a.put o.dst v) w := by
  have := h.put (Step.refl s w).later h.heap ho hd h.H h.nx
  exact this

theorem rel_undef {s : RS} : rel s (.tup []) undef := by simp only [rel]; exact ⟨[], rfl, relAll_nil⟩
/-- Is the operation carried out? -/
def guardD (ops : Array Oper) (st : St) (o : Oper) : Option Bool :=
  match o.guard with
  | none => some true
  | some (j, want) => match (ops[j]?).bind (·.dst) with
    | some i => match st.t i with
      | .bool b => some (b == want)
      | .tup _ => some false
      | _ => none
    | none => none

theorem guard_sound {N : Nat} {st : St} {s : RS} {a : Act} {w : World} (h : Fr P N st s a w) {ops : Array Oper} {o : Oper} {g : Bool} (hg : guardD ops st o = some g) : Region.wanted o (yielded ops a.tmps) = g := by
  unfold guardD at hg
  unfold Region.wanted
  cases ho : o.guard with
  | none => rw [ho] at hg; simpa using hg
  | some jw =>
    obtain ⟨j, want⟩ := jw
    rw [ho] at hg
    simp only at hg ⊢
    cases hd : (ops[j]?).bind (·.dst) with
    | none => rw [hd] at hg; cases hg
    | some i =>
      rw [hd] at hg
      simp only at hg
      have ht := h.tmps i
      split at hg
      · rename_i b hb
        cases hg
        rw [hb] at ht
        simp only [rel] at ht
        have hi : a.tmps[i]? = some (.bool b) := by
          simp only [Array.getD_eq_getD_getElem?] at ht
          cases hx : a.tmps[i]? with
          | none => rw [hx] at ht; simp [undef] at ht
          | some x => rw [hx] at ht; simp at ht; rw [ht]
        simp only [yielded, hd, Option.bind_some, hi]
        cases b <;> cases want <;> rfl
      · rename_i ds hb
        cases hg
        rw [hb] at ht
        simp only [rel] at ht
        obtain ⟨vs, hv, _⟩ := ht
        have hy : yielded ops a.tmps j = none := by
          simp only [yielded, hd, Option.bind_some]
          cases hx : a.tmps[i]? with
          | none => rfl
          | some x =>
            simp only [Array.getD_eq_getD_getElem?, hx, Option.getD_some] at hv
            subst hv; rfl
        rw [hy]; cases want <;> rfl
      · cases hg

/-- One operation, and what is asked behind it. -/
def opW (P : Program) (own : List Nat) (o : Oper) (st : St) (K : St → Prop) : Prop :=
  match o.op with
  | .call { callee := .value f, args := args, argTypes := _ } =>
    match st.ev f with
    | .fn g cap => AC P g (args.toList.map st.ev ++ cap) st.H st.nx fun r H nx => K ({ st with H := H, nx := nx }.put o.dst r)
    | _ => False
  | _ => match opR P own o st with
    | some (d, H, nx) => K ({ st with H := H, nx := nx }.put o.dst d)
    | none => False

theorem run_callFunc {f : FuncId} (h : callable P f) (args : Array Value) (w : World) : (callFunc f args).run P w = .ok (.enter f args) w := by
  obtain ⟨fn, h1, h2, h3⟩ := h
  simp only [callFunc, Sem.run_bind, run_program, Result.andThen_ok, h1, h2, h3, Bool.false_eq_true, if_false, Sem.run_pure]

theorem relAll_app {s : RS} {ds es : List D} {vs us : List Value} (h : relAll s ds vs) (h' : relAll s es us) : relAll s (ds ++ es) (vs ++ us) := relAll_append h h'

theorem opW_sound {N : Nat} {own : List Nat} {o : Oper} {st : St} {s : RS} {a : Act} {w : World} {K : St → Prop} {K' : Act → World → Prop} {Q : Exit → Act → World → Prop}
    (h : Fr P N st s a w) (ho : dstOK N o = true) (hw : opW P own o st K)
    (hk : ∀ st' s' a' w', K st' → Fr P N st' s' a' w' → Step s w s' w' → K' a' w') : o.wp P a w K' Q := by
  unfold opW at hw
  split at hw
  · rename_i f args tys hop
    split at hw
    · rename_i g cap hf
      have hv := h.ev f
      rw [hf] at hv
      simp only [rel] at hv
      obtain ⟨cvs, hfv, hcr⟩ := hv
      have hargs := relAll_map (s := s) (fun x => a.eval x) st.ev h.ev args.toList
      have hc := hw.2 s w (args.toList.map (fun x => a.eval x) ++ cvs) h.H h.nx h.heap (relAll_app hargs hcr)
      unfold Oper.wp
      have hrun : (execOp a.eval o).run P w = .ok (.enter g (args.toList.map (fun x => a.eval x) ++ cvs).toArray) w := by
        unfold execOp
        rw [hop]
        simp only [resolve, hfv, Deferred.ofValue, Sem.run_bind, Sem.run_pure, Result.andThen_ok, invoke]
        rw [run_callFunc hw.1]
        congr 2
        apply Array.ext'
        simp
      rw [hrun, Oper.upon_enter]
      refine hc.mono fun e w' ⟨v, r, s', he, hK, hstep, hRH, hr⟩ => ?_
      subst he
      exact hk _ s' _ w' hK (h.put hstep.later hRH ho hr rfl rfl) hstep
    · cases hw
  · cases hr : opR P own o st with
    | none => rw [hr] at hw; cases hw
    | some x =>
      obtain ⟨d, H, nx⟩ := x
      rw [hr] at hw
      simp only at hw
      obtain ⟨v, s', w', hrun, hstep, hRH, hH, hnx, hd⟩ := opR_sound h.ev h.H h.nx h.heap hr
      unfold Oper.wp
      rcases hrun with hrun | ⟨hrun, hu⟩
      · rw [hrun, Oper.upon_value]
        exact hk _ s' _ w' hw (h.put hstep.later hRH ho hd hH hnx) hstep
      · rw [hrun, Oper.upon_skip, ← hu]
        exact hk _ s' _ w' hw (h.put hstep.later hRH ho hd hH hnx) hstep

/-- The slots of a region's operations. -/
def dsts (ops : Array Oper) : List (Option Nat) := ops.toList.map (·.dst)
def guardS (gs : List (Option Nat)) (st : St) (o : Oper) : Option Bool :=
  match o.guard with
  | none => some true
  | some (j, want) => match (gs[j]?).bind id with
    | some i => match st.t i with
      | .bool b => some (b == want)
      | .tup _ => some false
      | _ => none
    | none => none
theorem guardS_eq (ops : Array Oper) (st : St) (o : Oper) : guardS (dsts ops) st o = guardD ops st o := by
  unfold guardS guardD dsts
  have h : ∀ j : Nat, ((ops.toList.map (·.dst))[j]?).bind id = (ops[j]?).bind (·.dst) := by
    intro j
    rw [List.getElem?_map, Array.getElem?_toList]
    cases ops[j]? <;> rfl
  cases o.guard with
  | none => rfl
  | some jw =>
    obtain ⟨j, want⟩ := jw
    simp only [h]
    cases (ops[j]?).bind (·.dst) with
    | none => rfl
    | some i => rfl
/-- A region in the text's order. -/
def awpL (P : Program) (own : List Nat) (gs : List (Option Nat)) : List Oper → (St → Prop) → St → Prop
  | [], K, st => K st
  | o :: rest, K, st =>
    match guardS gs st o with
    | some true => opW P own o st (awpL P own gs rest K)
    | some false => awpL P own gs rest K (st.put o.dst (.tup []))
    | none => False

theorem awpL_sound {N : Nat} {own : List Nat} {ops : Array Oper} {K : St → Prop} {Q : Exit → Act → World → Prop} : ∀ (l : List Oper) (st : St) (s : RS) (a : Act) (w : World),
    (∀ o ∈ l, dstOK N o = true) → awpL P own (dsts ops) l K st → Fr P N st s a w →
    (∀ st' s' a' w', K st' → Fr P N st' s' a' w' → Step s w s' w' → Q .normal a' w') → wpList P ops Q l a w
  | [], st, s, a, w, _, h, hf, hk => hk st s a w h hf (Step.refl s w)
  | o :: rest, st, s, a, w, hdst, h, hf, hk => by
    have ho := hdst o (by simp)
    have hrest : ∀ o' ∈ rest, dstOK N o' = true := fun o' h' => hdst o' (List.mem_cons_of_mem _ h')
    simp only [awpL] at h
    unfold wpList
    rw [guardS_eq] at h
    split at h
    · rename_i hg
      rw [if_pos (guard_sound hf hg)]
      exact .inl (opW_sound hf ho h fun st' s' a' w' hK hf' hstep =>
        awpL_sound rest st' s' a' w' hrest hK hf' fun st2 s2 a2 w2 hK2 hf2 hstep2 => hk st2 s2 a2 w2 hK2 hf2 (hstep.trans hstep2))
    · rename_i hg
      rw [if_neg (by rw [guard_sound hf hg]; simp)]
      exact awpL_sound rest _ s _ w hrest h (hf.put0 ho rel_undef) hk
    · cases h

end Go.Proofs.Ytjibdljdkgedcaa.Abs
