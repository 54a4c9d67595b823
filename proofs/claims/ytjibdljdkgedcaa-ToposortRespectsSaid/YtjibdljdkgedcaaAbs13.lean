/-
  The walk of a function's code over abstract states, and its soundness. No condition.
-/
import Derived.Test.YtjibdljdkgedcaaAbs12
set_option linter.unusedSimpArgs false
set_option linter.unusedVariables false
namespace Go.Proofs.Ytjibdljdkgedcaa.Abs
open Go.RowKit
variable {P : Program}

/-- One operation in a region that draws: a call leaves the objects alone, or (marked) the boxes. -/
def opD (P : Program) (own : List Nat) (o : Oper) (st : St) (K : St → Prop) : Prop :=
  match o.op with
  | .call { callee := .value f, args := args, argTypes := _ } =>
    match st.ev f with
    | .fn g cap => (isMark 5000000 own o.dst = false ∧ ∃ r, RC P g (args.toList.map st.ev ++ cap) st.H st.nx r ∧ K (st.put o.dst r)) ∨
        (isMark 5000000 own o.dst = true ∧ ∃ r, (∀ H nx, RC P g (args.toList.map st.ev ++ cap) H nx r) ∧ K (st.put o.dst r)) ∨
        (isMark 5000000 own o.dst = false ∧ isMark 4000000 own o.dst = true ∧ ∃ d H nx, AC P g (args.toList.map st.ev ++ cap) st.H st.nx (fun r' H' nx' => r' = d ∧ H' = H ∧ nx' = nx) ∧ SameB st H nx ∧ K ((st.withH H nx).put o.dst d))
    | _ => False
  | _ => match opR P own o st with
    | some (d, H, nx) => if okW own o st = true then K ({ st with H := H, nx := nx }.put o.dst d) else False
    | none => False
def awpD (P : Program) (own : List Nat) (gs : List (Option Nat)) : List Oper → (St → Prop) → St → Prop
  | [], K, st => K st
  | o :: rest, K, st =>
    match guardS gs st o with
    | some true => opD P own o st (awpD P own gs rest K)
    | some false => awpD P own gs rest K (st.put o.dst (.tup []))
    | none => False

theorem runL_of {own : List Nat} {ops : Array Oper} {K : St → Prop} : ∀ (l : List Oper) (k : Nat) (st : St), (∀ j, l[j]? = ops[k + j]?) → awpD P own (dsts ops) l K st → runL P own ops K (List.range' k l.length) st
  | [], k, st, _, h => h
  | o :: l, k, st, hl, h => by
    have ho : ops[k]? = some o := by simpa using (hl 0).symm
    have hl' : ∀ j, l[j]? = ops[k + 1 + j]? := fun j => by have := hl (j + 1); simpa [Nat.add_assoc, Nat.add_comm 1 j] using this
    simp only [List.length_cons, List.range'_succ, runL]
    simp only [awpD] at h
    rw [guardS_eq] at h
    split at h
    · rename_i hg
      unfold opD at h
      split at h
      · rename_i f args tys hop
        split at h
        · rename_i g cap hf
          rcases h with ⟨h0, r, hrc, h⟩ | ⟨h0, r, hrc, h⟩ | ⟨h0, hm, d, H, nx, hac, hsb, h⟩
          · exact ⟨o, r, st.H, st.nx, ho, .inl ⟨hg, .inl ⟨f, args, tys, g, cap, hop, hf, .inl ⟨h0, hrc, rfl, rfl⟩⟩⟩, runL_of l (k + 1) _ hl' h⟩
          · exact ⟨o, r, st.H, st.nx, ho, .inl ⟨hg, .inl ⟨f, args, tys, g, cap, hop, hf, .inr (.inl ⟨h0, hrc, rfl, rfl⟩)⟩⟩, runL_of l (k + 1) _ hl' h⟩
          · exact ⟨o, d, H, nx, ho, .inl ⟨hg, .inl ⟨f, args, tys, g, cap, hop, hf, .inr (.inr ⟨h0, hm, hac, hsb⟩)⟩⟩, runL_of l (k + 1) _ hl' h⟩
        · cases h
      · split at h
        · rename_i d H nx hr
          split at h
          · rename_i hok
            exact ⟨o, d, H, nx, ho, .inl ⟨hg, .inr ⟨hr, hok⟩⟩, runL_of l (k + 1) _ hl' h⟩
          · cases h
        · cases h
    · rename_i hg
      exact ⟨o, .tup [], st.H, st.nx, ho, .inr ⟨hg, rfl, rfl, rfl⟩, runL_of l (k + 1) _ hl' h⟩
    · cases h

/-- Whatever stands as the one state says stands as the other says: between two statements the walk may go on from the other. -/
def SealTo (P : Program) (st st' : St) : Prop := ∀ N s a w, Fr P N st s a w → ∃ s', Fr P N st' s' a w ∧ Step s w s' w
theorem SealTo.refl (st : St) : SealTo P st st := fun _ s _ w h => ⟨s, h, Step.refl s w⟩
theorem SealTo.trans {st st' st'' : St} (h : SealTo P st st') (h' : SealTo P st' st'') : SealTo P st st'' := fun N s a w hf => by
  obtain ⟨s1, h1, h2⟩ := h N s a w hf
  obtain ⟨s2, h3, h4⟩ := h' N s1 a w h1
  exact ⟨s2, h3, h2.trans h4⟩
def seqK (k : St → Prop) (Q : Exit → St → Prop) : Exit → St → Prop
  | .normal, st => k st
  | e, st => Q e st
def blkK (id : Nat) (Q : Exit → St → Prop) : Exit → St → Prop
  | .exit id', st => if id' = id then Q .normal st else Q (.exit id') st
  | e, st => Q e st
def loopK (I : Nat → St → Prop) (n : Nat) (Q : Exit → St → Prop) : Exit → St → Prop
  | .normal, st => ∃ m, m < n ∧ I m st
  | e, st => Q e st

/-- The walk of a piece of code. -/
def awp (P : Program) (own : List Nat) : Code → (Exit → St → Prop) → St → Prop
  | .skip, Q, st => Q .normal st
  | .region _ ops draw, Q, st => (draw = true → drawOK own ops = true ∧ awpD P own (dsts ops) ops.toList (Q .normal) st) ∧ (draw = false → awpL P own (dsts ops) ops.toList (Q .normal) st)
  | .seq a b, Q, st => awp P own a (seqK (fun st => ∃ st', SealTo P st st' ∧ awp P own b Q st') Q) st
  | .cond c x y, Q, st => ∃ t, st.ev c = .bool t ∧ (t = true → awp P own x Q st) ∧ (t = false → awp P own y Q st)
  | .block id c, Q, st => awp P own c (blkK id Q) st
  | .loop c, Q, st => ∃ I : Nat → St → Prop, (∃ n, I n st) ∧ ∀ n st', I n st' → awp P own c (loopK I n Q) st'
  | .exit id, Q, st => Q (.exit id) st
  | .ret, Q, st => Q .ret st
  | _, _, _ => False

def codeOK (N : Nat) : Code → Bool
  | .region _ ops _ => ops.toList.all (dstOK N)
  | .seq a b => codeOK N a && codeOK N b
  | .cond _ x y => codeOK N x && codeOK N y
  | .block _ c => codeOK N c
  | .loop c => codeOK N c
  | _ => true

theorem wp_loop_n {c : Code} {Q : Exit → Act → World → Prop} (I : Nat → Act → World → Prop) (round : ∀ n a w, I n a w → c.wp P (Exit.then (fun a' w' => ∃ m, m < n ∧ I m a' w') Q) a w) :
    ∀ n a w, I n a w → (Code.loop c).wp P Q a w := by
  intro n a w h0 b k cs
  have key : ∀ n a w, I n a w → ∃ e a' w', Q e a' w' ∧ Arrives P (lone (b.at a (.code c :: .inLoop c :: k)) cs w) b k cs e a' w' := by
    intro n
    induction n using Nat.strongRecOn with
    | _ n ih =>
      intro a w hI
      obtain ⟨e, a₁, w₁, hq, harr⟩ := round n a w hI b (.inLoop c :: k) cs
      cases e with
      | normal =>
        obtain ⟨m, hm, hI₁⟩ := hq
        obtain ⟨e₂, a₂, w₂, hq₂, harr₂⟩ := ih m hm a₁ w₁ hI₁
        exact ⟨e₂, a₂, w₂, hq₂, .of_steps (Steps.trans harr (.one step_inLoop)) harr₂⟩
      | exit id => exact ⟨_, a₁, w₁, hq, .pass (x := .inLoop c) rfl (fun _ _ => .inl (by simp)) harr⟩
      | goto l => exact ⟨_, a₁, w₁, hq, .pass (x := .inLoop c) rfl (fun _ _ => .inl (by simp)) harr⟩
      | ret => exact ⟨_, a₁, w₁, hq, .pass (x := .inLoop c) rfl (fun _ _ => .inl (by simp)) harr⟩
      | panic ch => exact ⟨_, a₁, w₁, hq, .pass (x := .inLoop c) rfl (fun _ _ => .inl (by simp)) harr⟩
      | outgrown => exact ⟨_, a₁, w₁, hq, .pass (x := .inLoop c) rfl (fun _ _ => .inl (by simp)) harr⟩
  obtain ⟨e, a', w', hq, harr⟩ := key n a w h0
  exact ⟨e, a', w', hq, .of_steps (.one step_loop) harr⟩

def lift (P : Program) (N : Nat) (s0 : RS) (w0 : World) (Q : Exit → St → Prop) : Exit → Act → World → Prop :=
  fun e a w => ∃ st s, Q e st ∧ Fr P N st s a w ∧ Step s0 w0 s w

theorem awp_sound {N : Nat} {own : List Nat} (hm : P.follows .mixedOrders = true) {s0 : RS} {w0 : World} : ∀ (c : Code) (Q : Exit → St → Prop) (st : St) (s : RS) (a : Act) (w : World), codeOK N c = true → awp P own c Q st →
    Fr P N st s a w → Step s0 w0 s w → c.wp P (lift P N s0 w0 Q) a w
  | .skip, Q, st, s, a, w, _, h, hf, hs => wp_skip ⟨st, s, h, hf, hs⟩
  | .region id ops draw, Q, st, s, a, w, hok, h, hf, hs => by
    simp only [codeOK] at hok
    have hdst : ∀ o ∈ ops.toList, dstOK N o = true := fun o ho => List.all_eq_true.1 hok o ho
    cases draw with
    | false =>
      refine wp_region_list (awpL_sound (Q := lift P N s0 w0 Q) ops.toList st s a w hdst (h.2 rfl) hf fun st' s' a' w' hK hf' hs' => ⟨st', s', hK, hf', hs.trans hs'⟩)
    | true =>
      obtain ⟨hdo, h⟩ := h.1 rfl
      obtain ⟨hds, hdr⟩ := drawn_state (w' := { w with drawn := w.drawn + 1 }) hf.heap rfl rfl rfl rfl
      have hf' : Fr P N st s a { w with drawn := w.drawn + 1 } := ⟨hf.H, hf.nx, hf.size, hf.defers, hf.tmps, hdr⟩
      refine wp_region_any hm (any_sound (Q := lift P N s0 w0 Q) hdo (fun i o ho => hdst o (by
        have := (Array.getElem?_eq_some_iff.1 ho)
        obtain ⟨h1, h2⟩ := this
        rw [← h2]; exact (Array.mem_toList_iff.2 (Array.getElem_mem h1)))) ops.size _ st s a _ ?_ (by simp) ?_ ?_ hf' fun st' s' a' w' hK hf2 hs2 => ⟨st', s', hK, hf2, hs.trans (hds.trans hs2)⟩)
      · have : (rem ops (Array.replicate ops.size false)).length ≤ (List.range ops.size).length := List.length_filter_le _ _
        simpa using this
      · intro k o ho hl
        have hlt := (Array.getElem?_eq_some_iff.1 ho).1
        simp [Array.getD_eq_getD_getElem?, hlt] at hl
      · have hrem : rem ops (Array.replicate ops.size false) = List.range ops.size := by
          refine List.filter_eq_self.2 fun k hk => ?_
          have hlt : k < ops.size := by simpa using hk
          simp [Array.getD_eq_getD_getElem?, hlt]
        rw [hrem, List.range_eq_range', ← Array.length_toList]
        exact runL_of ops.toList 0 st (by simp) h
  | .seq x y, Q, st, s, a, w, hok, h, hf, hs => by
    simp only [codeOK, Bool.and_eq_true] at hok
    refine wp_seq (wp_mono (awp_sound hm x _ st s a w hok.1 h hf hs) ?_)
    rintro e a' w' ⟨st', s', hq, hf', hs'⟩
    cases e with
    | normal =>
      obtain ⟨st2, hseal, hq⟩ := hq
      obtain ⟨s2, hf2, hs2⟩ := hseal N s' a' w' hf'
      exact awp_sound hm y Q st2 s2 a' w' hok.2 hq hf2 (hs'.trans hs2)
    | exit id => exact ⟨st', s', hq, hf', hs'⟩
    | goto l => exact ⟨st', s', hq, hf', hs'⟩
    | ret => exact ⟨st', s', hq, hf', hs'⟩
    | panic ch => exact ⟨st', s', hq, hf', hs'⟩
    | outgrown => exact ⟨st', s', hq, hf', hs'⟩
  | .cond c x y, Q, st, s, a, w, hok, h, hf, hs => by
    simp only [codeOK, Bool.and_eq_true] at hok
    obtain ⟨t, ht, h1, h2⟩ := h
    have hv := hf.ev c
    rw [ht] at hv
    simp only [rel] at hv
    exact wp_cond_split hv (fun e => awp_sound hm x Q st s a w hok.1 (h1 e) hf hs) (fun e => awp_sound hm y Q st s a w hok.2 (h2 e) hf hs)
  | .block id c, Q, st, s, a, w, hok, h, hf, hs => by
    refine wp_block (wp_mono (awp_sound hm c _ st s a w hok h hf hs) ?_)
    rintro e a' w' ⟨st', s', hq, hf', hs'⟩
    cases e with
    | exit id' =>
      simp only [blkK] at hq
      simp only [Exit.inBlock]
      split
      · rename_i he; rw [if_pos he] at hq; exact ⟨st', s', hq, hf', hs'⟩
      · rename_i he; rw [if_neg he] at hq; exact ⟨st', s', hq, hf', hs'⟩
    | normal => exact ⟨st', s', hq, hf', hs'⟩
    | goto l => exact ⟨st', s', hq, hf', hs'⟩
    | ret => exact ⟨st', s', hq, hf', hs'⟩
    | panic ch => exact ⟨st', s', hq, hf', hs'⟩
    | outgrown => exact ⟨st', s', hq, hf', hs'⟩
  | .loop c, Q, st, s, a, w, hok, h, hf, hs => by
    obtain ⟨I, ⟨n, hn⟩, hround⟩ := h
    refine wp_loop_n (fun n a w => ∃ st s, I n st ∧ Fr P N st s a w ∧ Step s0 w0 s w) ?_ n a w ⟨st, s, hn, hf, hs⟩
    rintro n a w ⟨st, s, hI, hf, hs⟩
    refine wp_mono (awp_sound hm c _ st s a w hok (hround n st hI) hf hs) ?_
    rintro e a' w' ⟨st', s', hq, hf', hs'⟩
    cases e with
    | normal =>
      obtain ⟨m, hm', hI'⟩ := hq
      exact ⟨m, hm', st', s', hI', hf', hs'⟩
    | exit id => exact ⟨st', s', hq, hf', hs'⟩
    | goto l => exact ⟨st', s', hq, hf', hs'⟩
    | ret => exact ⟨st', s', hq, hf', hs'⟩
    | panic ch => exact ⟨st', s', hq, hf', hs'⟩
    | outgrown => exact ⟨st', s', hq, hf', hs'⟩
  | .exit id, Q, st, s, a, w, _, h, hf, hs => wp_exit ⟨st, s, h, hf, hs⟩
  | .ret, Q, st, s, a, w, _, h, hf, hs => wp_ret ⟨st, s, h, hf, hs⟩
  | .rangeFunc .., _, _, _, _, _, _, h, _, _ => h.elim
  | .scope _, _, _, _, _, _, _, h, _, _ => h.elim
  | .label _, _, _, _, _, _, _, h, _, _ => h.elim
  | .goto _, _, _, _, _, _, _, h, _, _ => h.elim
  | .refuse _, _, _, _, _, _, _, h, _, _ => h.elim

/-- What a function returns. -/
def valR (P : Program) (st : St) : ResultVar → Option D
  | .tmp t => some (st.t t)
  | .cell a ty => loadD P st.H ty (st.t a)
def allR (P : Program) (st : St) : List ResultVar → Option (List D)
  | [] => some []
  | r :: rs => match valR P st r, allR P st rs with
    | some d, some ds => some (d :: ds)
    | _, _ => none
def resD (P : Program) (st : St) (rs : List ResultVar) : Option D :=
  match allR P st rs with
  | some [d] => some d
  | some ds => some (.tup ds)
  | none => none
def retQ (P : Program) (rs : List ResultVar) (K : D → HM → Nat → Prop) : Exit → St → Prop
  | .normal, st | .ret, st => ∃ r, resD P st rs = some r ∧ K r st.H st.nx
  | _, _ => False

theorem run_asAddr {s : RS} {w : World} {p d : D} {H : HM} {t : TypeId} {v u : Value} (hl : loadD P H t p = some d) (hp : rel s p v) (hr : (Instr.loadAt t v).run P w = .ok u w) : (do loadVar t (← asAddr v) : Sem Value).run P w = .ok u w := by
  have hv : ∃ a, v = .pointer (some a) := by
    unfold loadD at hl
    split at hl
    · simp only [rel] at hp; exact hp.2.1
    · simp only [rel] at hp; exact hp.2.1
    · simp only [rel] at hp; obtain ⟨a, u, h, _⟩ := hp; exact ⟨a, h⟩
    · cases hl
  obtain ⟨a, rfl⟩ := hv
  simpa [Instr.loadAt, Instr.sureAddr, asAddr] using hr

def resV (tmps : Array Value) : ResultVar → Sem Value
  | .tmp t => pure (tmps.getD t undef)
  | .cell a t => do loadVar t (← asAddr (tmps.getD a undef))
theorem results_eq (fn : Func) (tmps : Array Value) : results fn tmps = (do let vs ← fn.results.mapM (resV tmps); pure (if h : vs.size = 1 then vs[0] else .tuple vs)) := by
  unfold results
  congr 2
theorem results_list {N : Nat} {st : St} {s : RS} {a : Act} {w : World} (hf : Fr P N st s a w) : ∀ (rs : List ResultVar) (ds : List D), allR P st rs = some ds →
    ∃ vs, (rs.mapM (resV a.tmps)).run P w = .ok vs w ∧ relAll s ds vs
  | [], ds, h => by
    simp only [allR, Option.some.injEq] at h; subst h
    exact ⟨[], by simp, relAll_nil⟩
  | r :: rs, ds, h => by
    simp only [allR] at h
    split at h
    · rename_i d ds' hd hds
      cases h
      obtain ⟨vs, h1, h2⟩ := results_list hf rs ds' hds
      cases r with
      | tmp t =>
        simp only [valR, Option.some.injEq] at hd; subst hd
        refine ⟨a.tmps.getD t undef :: vs, ?_, relAll_cons (hf.tmps t) h2⟩
        simp only [List.mapM_cons, Sem.run_bind, resV, Sem.run_pure, Result.andThen_ok, h1]
      | cell b ty =>
        simp only [valR] at hd
        have hd' := hd
        rw [← hf.H] at hd
        obtain ⟨u, h3, h4⟩ := load_sound hf.heap hd (hf.tmps b)
        refine ⟨u :: vs, ?_, relAll_cons h4 h2⟩
        have h5 := run_asAddr hd (hf.tmps b) h3
        rw [List.mapM_cons, Sem.run_bind]
        simp only [resV]
        rw [h5, Result.andThen_ok, Sem.run_bind, h1, Result.andThen_ok, Sem.run_pure]
    · cases h

theorem results_sound {N : Nat} {st : St} {s : RS} {a : Act} {w : World} (hf : Fr P N st s a w) {fn : Func} {r : D} (h : resD P st fn.results.toList = some r) :
    ∃ v, (results fn a.tmps).run P w = .ok v w ∧ rel s r v := by
  unfold resD at h
  cases hall : allR P st fn.results.toList with
  | none => rw [hall] at h; cases h
  | some ds =>
    obtain ⟨vs, h1, h2⟩ := results_list hf _ _ hall
    have hrun : (results fn a.tmps).run P w = .ok (if h : vs.toArray.size = 1 then vs.toArray[0] else .tuple vs.toArray) w := by
      rw [results_eq, Array.mapM_eq_mapM_toList]
      simp only [Sem.run_bind, Sem.run_map, h1, Result.andThen_ok, Sem.run_pure]
    rw [hall] at h
    have hl := relAll_length h2
    match ds, h with
    | [], h =>
      simp only [Option.some.injEq] at h; subst h
      have : vs = [] := List.eq_nil_of_length_eq_zero (by simpa using hl)
      subst this
      exact ⟨_, hrun, by simp only [rel]; exact ⟨[], by simp, relAll_nil⟩⟩
    | [d], h =>
      simp only [Option.some.injEq] at h; subst h
      simp only [relAll] at h2
      obtain ⟨v, r, rfl, h3, rfl⟩ := h2
      exact ⟨_, hrun, by simpa using h3⟩
    | d :: e :: ds, h =>
      simp only [Option.some.injEq] at h; subst h
      refine ⟨_, hrun, ?_⟩
      have hne : ¬ vs.toArray.size = 1 := by simp [hl]
      rw [dif_neg hne]
      simp only [rel]
      exact ⟨vs, rfl, h2⟩

def st0 (ds : List D) (H : HM) (nx : Nat) : St := ⟨fun i => (ds[i]?).getD .any, H, nx⟩

/-- A contract out of a walk. -/
theorem AC_intro {f : FuncId} {fn : Func} {c : Code} (own : List Nat) (hf : P.funcs[f]? = some fn) (hb : fn.body = some c) (hname : (fn.name == "runtime.NumGoroutine") = false) (hm : P.follows .mixedOrders = true)
    (hok : codeOK fn.ntmps c = true) {ds : List D} {H : HM} {nx : Nat} {K : D → HM → Nat → Prop} (hds : ds.length ≤ fn.ntmps) (h : awp P own c (retQ P fn.results.toList K) (st0 ds H nx)) : AC P f ds H nx K := by
  refine ⟨⟨fn, hf, hname, by rw [hb]; rfl⟩, fun s w vs hH hnx hRH hr => ?_⟩
  have hlen := relAll_length hr
  refine calls_of_wp hf hb ?_
  have hfr : Fr P fn.ntmps (st0 ds H nx) s { tmps := vs.toArray ++ Array.replicate (fn.ntmps - vs.toArray.size) undef, defers := [] } w := by
    refine ⟨hH, hnx, by simp; omega, rfl, fun i => ?_, hRH⟩
    simp only [st0]
    cases hd : ds[i]? with
    | none => simp [rel]
    | some d =>
      obtain ⟨v, hv, hrel⟩ := relAll_get hr i d hd
      have hi : i < vs.length := by
        rcases Nat.lt_or_ge i vs.length with h | h
        · exact h
        · rw [List.getElem?_eq_none h] at hv; cases hv
      simp only [Array.getD_eq_getD_getElem?, Option.getD_some]
      rw [Array.getElem?_append_left (by simpa using hi)]
      simp only [List.getElem?_toArray, hv, Option.getD_some]
      exact hrel
  refine wp_mono (awp_sound (s0 := s) (w0 := w) hm c _ _ s _ w hok h hfr (Step.refl s w)) ?_
  rintro e a' w' ⟨st', s', hq, hf', hs'⟩
  cases e with
  | normal =>
    obtain ⟨r, hr, hK⟩ := hq
    obtain ⟨v, h1, h2⟩ := results_sound hf' hr
    exact ⟨hf'.defers, v, h1, v, r, s', rfl, by rw [hf'.H, hf'.nx]; exact hK, hs', hf'.heap, h2⟩
  | ret =>
    obtain ⟨r, hr, hK⟩ := hq
    obtain ⟨v, h1, h2⟩ := results_sound hf' hr
    exact ⟨hf'.defers, v, h1, v, r, s', rfl, by rw [hf'.H, hf'.nx]; exact hK, hs', hf'.heap, h2⟩
  | exit id => exact hq.elim
  | goto l => exact hq.elim
  | panic ch => exact hq.elim
  | outgrown => exact hq.elim

end Go.Proofs.Ytjibdljdkgedcaa.Abs
