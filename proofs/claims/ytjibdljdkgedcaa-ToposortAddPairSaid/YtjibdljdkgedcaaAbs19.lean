/-
  Contracts of functions that give back objects of their own: new rows, boxes and maps, that the caller then owns. No condition.
-/
import Derived.Test.YtjibdljdkgedcaaAbs18
namespace Go.Proofs.Ytjibdljdkgedcaa.Abs
open Go.RowKit
variable {P : Program}

def objPure : HObj → Bool
  | .box _ cs => pureD.pureL cs
  | .row _ _ cs => pureD.pureL cs
  | .map es => pureD.pureL (es.map (·.1)) && pureD.pureL (es.map (·.2))
/-- The objects' numbers in a value, turned. -/
def renD (g : Nat → Nat) : D → D
  | .osl j n => .osl (g j) n
  | .ptr j off => .ptr (g j) off
  | .mp j => .mp (g j)
  | .agg ds => .agg (renL ds)
  | .tup ds => .tup (renL ds)
  | d => d
where renL : List D → List D
  | [] => []
  | d :: ds => renD g d :: renL ds
/-- A value whose parts are only read, or lie in the first k objects. -/
def okD (k : Nat) : D → Bool
  | .osl j _ => decide (j < k)
  | .ptr j _ => decide (j < k)
  | .mp j => decide (j < k)
  | .agg ds => okL ds
  | .tup ds => okL ds
  | d => pureD d
where okL : List D → Bool
  | [] => true
  | d :: ds => okD k d && okL ds
def addL (H : HM) (nx : Nat) : List HObj → HM
  | [] => H
  | o :: os => addL (updH H nx (some o)) (nx + 1) os
theorem addL_eq : ∀ (os : List HObj) (H : HM) (nx i : Nat), addL H nx os i = if nx ≤ i ∧ i < nx + os.length then os[i - nx]? else H i
  | [], H, nx, i => by
    simp only [addL, List.length_nil, Nat.add_zero]
    rw [if_neg (by omega)]
  | o :: os, H, nx, i => by
    simp only [addL, addL_eq os, List.length_cons, updH]
    by_cases h : nx + 1 ≤ i ∧ i < nx + 1 + os.length
    · rw [if_pos h, if_pos (by omega)]
      have : i - nx = (i - (nx + 1)) + 1 := by omega
      rw [this, List.getElem?_cons_succ]
    · rw [if_neg h]
      by_cases h2 : i = nx
      · subst h2
        rw [if_pos rfl, if_pos (by omega), Nat.sub_self]; rfl
      · rw [if_neg h2, if_neg (by omega)]

/-- A contract: new objects 'objs', the caller's from now on, and a result that may lie in them (they are numbered from 0 in 'r'). -/
def OC (P : Program) (f : FuncId) (ds : List D) (objs : List HObj) (r : D) : Prop :=
  pureD.pureL ds = true ∧ okD objs.length r = true ∧ (∀ o ∈ objs, objPure o = true) ∧
    ∀ H nx, AC P f ds H nx fun r' H' nx' => r' = renD (fun j => nx + j) r ∧ H' = addL H nx objs ∧ nx' = nx + objs.length

/-- The caller's state behind the call: the callee's objects σ 0, .., σ (k - 1) are kept. -/
noncomputable def adoptS (s s3 : RS) (w w' : World) (k : Nat) (σ : Nat → Nat) : RS :=
  { m := fun a => if a.block < w.heap.size then s.m a else @ite _ (∃ j, j < k ∧ blockOf (s3.κ (σ j)) = some a.block) (Classical.propDecidable _) none (w'.cell? a)
    κ := fun i => if s.nx ≤ i ∧ i < s.nx + k then s3.κ (σ (i - s.nx)) else s.κ i
    H := fun i => if s.nx ≤ i ∧ i < s.nx + k then s3.H (σ (i - s.nx)) else s.H i
    nx := s.nx + k }

mutual
theorem rel_ren {s s' : RS} {k : Nat} {σ τ : Nat → Nat} (hm : ∀ a v, s.m a = some v → s'.m a = some v)
    (hnx : ∀ j, j < k → τ j < s'.nx) (hH : ∀ j, j < k → s'.H (τ j) = s.H (σ j) ∧ s'.κ (τ j) = s.κ (σ j)) : ∀ (d : D) (v : Value), okD k d = true → rel s (renD σ d) v → rel s' (renD τ d) v
  | .osl j n, v, hk, hr => by
    simp only [okD, decide_eq_true_eq] at hk
    simp only [renD, rel] at hr ⊢
    obtain ⟨_, h2, h3⟩ := hr
    obtain ⟨e1, e2⟩ := hH j hk
    exact ⟨hnx j hk, h2, by rw [e1, e2]; exact h3⟩
  | .ptr j off, v, hk, hr => by
    simp only [okD, decide_eq_true_eq] at hk
    simp only [renD, rel] at hr ⊢
    obtain ⟨_, h2, h3⟩ := hr
    obtain ⟨e1, e2⟩ := hH j hk
    exact ⟨hnx j hk, h2, by rw [e1, e2]; exact h3⟩
  | .mp j, v, hk, hr => by
    simp only [okD, decide_eq_true_eq] at hk
    simp only [renD, rel] at hr ⊢
    obtain ⟨_, h2, h3⟩ := hr
    obtain ⟨e1, e2⟩ := hH j hk
    exact ⟨hnx j hk, h2, by rw [e1, e2]; exact h3⟩
  | .agg ds, v, hk, hr => by
    simp only [okD] at hk
    simp only [renD, rel] at hr ⊢
    obtain ⟨vs, h1, h2, h3⟩ := hr
    exact ⟨vs, h1, relAll_ren hm hnx hH ds vs hk h2, h3⟩
  | .tup ds, v, hk, hr => by
    simp only [okD] at hk
    simp only [renD, rel] at hr ⊢
    obtain ⟨vs, h1, h2⟩ := hr
    exact ⟨vs, h1, relAll_ren hm hnx hH ds vs hk h2⟩
  | .any, v, hk, hr => by simp only [renD] at hr ⊢; exact rel_pure hm _ _ rfl hr
  | .int _ _, v, hk, hr => by simp only [renD] at hr ⊢; exact rel_pure hm _ _ rfl hr
  | .bool _, v, hk, hr => by simp only [renD] at hr ⊢; exact rel_pure hm _ _ rfl hr
  | .str _, v, hk, hr => by simp only [renD] at hr ⊢; exact rel_pure hm _ _ rfl hr
  | .nil, v, hk, hr => by simp only [renD] at hr ⊢; exact rel_pure hm _ _ rfl hr
  | .nptr, v, hk, hr => by simp only [renD] at hr ⊢; exact rel_pure hm _ _ rfl hr
  | .nfun, v, hk, hr => by simp only [renD] at hr ⊢; exact rel_pure hm _ _ rfl hr
  | .nmp, v, hk, hr => by simp only [renD] at hr ⊢; exact rel_pure hm _ _ rfl hr
  | .e0, v, hk, hr => by simp only [renD] at hr ⊢; exact rel_pure hm _ _ rfl hr
  | .rsl nn sz els, v, hk, hr => by simp only [okD] at hk; simp only [renD] at hr ⊢; exact rel_pure hm _ _ hk hr
  | .rptr d, v, hk, hr => by simp only [okD] at hk; simp only [renD] at hr ⊢; exact rel_pure hm _ _ hk hr
  | .fn f cap, v, hk, hr => by simp only [okD] at hk; simp only [renD] at hr ⊢; exact rel_pure hm _ _ hk hr
  | .eptr .., v, hk, hr => by simp only [okD, pureD] at hk; cases hk
theorem relAll_ren {s s' : RS} {k : Nat} {σ τ : Nat → Nat} (hm : ∀ a v, s.m a = some v → s'.m a = some v)
    (hnx : ∀ j, j < k → τ j < s'.nx) (hH : ∀ j, j < k → s'.H (τ j) = s.H (σ j) ∧ s'.κ (τ j) = s.κ (σ j)) : ∀ (ds : List D) (vs : List Value), okD.okL k ds = true → relAll s (renD.renL σ ds) vs → relAll s' (renD.renL τ ds) vs
  | [], vs, _, hr => by simpa [renD.renL, relAll] using hr
  | d :: ds, vs, hk, hr => by
    simp only [okD.okL, Bool.and_eq_true] at hk
    simp only [renD.renL, relAll] at hr ⊢
    obtain ⟨v, r, h1, h2, h3⟩ := hr
    exact ⟨v, r, h1, rel_ren hm hnx hH d v hk.1 h2, relAll_ren hm hnx hH ds r hk.2 h3⟩
end

theorem objOK.pure {s s' : RS} {w : World} {v : Value} {o : HObj} (hm : ∀ a v, s.m a = some v → s'.m a = some v) (hp : objPure o = true) (h : objOK P s w v o) : objOK P s' w v o := by
  cases o with
  | box e cs =>
    obtain ⟨b, vs, h1, h2, h3, h4⟩ := h
    exact ⟨b, vs, h1, h2, relAll_pure hm _ _ hp h3, h4⟩
  | row e n cs =>
    obtain ⟨vs, h1, h2, h3⟩ := h
    exact ⟨vs, h1, relAll_pure hm _ _ hp h2, h3⟩
  | map es =>
    simp only [objPure, Bool.and_eq_true] at hp
    obtain ⟨r, ens, clock, h1, h2, h3, h4⟩ := h
    exact ⟨r, ens, clock, h1, h2, relAll_pure hm _ _ hp.1 h3, relAll_pure hm _ _ hp.2 h4⟩

theorem OC_intro {f : FuncId} {ds : List D} {objs : List HObj} {r : D} (hds : pureD.pureL ds = true) (hr : okD objs.length r = true) (ho : ∀ o ∈ objs, objPure o = true)
    (h : AC P f ds noH 0 fun d H' _ => ∃ σ : Nat → Nat, (∀ i j, i < objs.length → j < objs.length → σ i = σ j → i = j) ∧ d = renD σ r ∧ ∀ j, j < objs.length → H' (σ j) = objs[j]?) : OC P f ds objs r := by
  refine ⟨hds, hr, ho, fun H nx => ⟨h.1, fun s w vs hH hnx hRH hrel => ?_⟩⟩
  subst hH; subst hnx
  let s2 : RS := { s with H := noH, nx := 0 }
  have hno : ∀ k, ¬ owned s2 k := by rintro k ⟨id, hid, _⟩; exact absurd hid (Nat.not_lt_zero _)
  have hRH2 : RH P s2 w := ⟨fun a v hmm => ⟨(hRH.mem a v hmm).1, hno _⟩, fun id o ho => (by cases ho), fun i j hi => (hi rfl).elim, fun g => rel_pure (s := s) (s' := s2) (fun a v hm => hm) _ _ (pure_globD g) (hRH.glob g)⟩
  have hr2 : relAll s2 ds vs := relAll_pure (s := s) (s' := s2) (fun a v hm => hm) ds vs hds hrel
  refine (h.2 s2 w vs rfl rfl hRH2 hr2).mono fun e w' ⟨v, d, s3, he, ⟨σ, hinj, hd, hobj⟩, hstep, hRH3, hres⟩ => ?_
  subst hd
  have hold : ∀ k, k < w.heap.size → w'.heap[k]? = w.heap[k]? := fun k hk => hstep.keep k hk (hno k)
  have hnew3 : ∀ k, owned s3 k → w.heap.size ≤ k := fun k hk => (hstep.own k hk).elim (fun h => (hno k h).elim) id
  have hlive : ∀ j, j < objs.length → s3.H (σ j) ≠ none := fun j hj => by rw [hobj j hj, List.getElem?_eq_getElem hj]; simp
  have hown3 : ∀ j b, j < objs.length → blockOf (s3.κ (σ j)) = some b → owned s3 b := fun j b hj hb => ⟨σ j, hRH3.fresh (hlive j hj), hlive j hj, hb⟩
  let s' := adoptS s s3 w w' objs.length σ
  have hm3 : ∀ a u, s3.m a = some u → s'.m a = some u := by
    intro a u hu
    show (adoptS s s3 w w' objs.length σ).m a = some u
    simp only [adoptS]
    rcases hstep.new a u hu with h1 | h1 | h1
    · have hlt := hRH.mem_lt (a := a) (v := u) h1
      rw [if_pos hlt]; exact h1
    · rw [if_neg (by omega), if_neg]
      · exact (hRH3.mem a u hu).1
      · rintro ⟨j, hj, hb⟩
        exact (hRH3.mem a u hu).2 (hown3 j _ hj hb)
    · exact (hno _ h1).elim
  have hm0 : ∀ a u, s.m a = some u → s'.m a = some u := by
    intro a u hu
    show (adoptS s s3 w w' objs.length σ).m a = some u
    simp only [adoptS]
    rw [if_pos (hRH.mem_lt hu)]; exact hu
  have hHnew : ∀ j, j < objs.length → s'.H (s.nx + j) = s3.H (σ j) ∧ s'.κ (s.nx + j) = s3.κ (σ j) := by
    intro j hj
    show (adoptS s s3 w w' objs.length σ).H (s.nx + j) = _ ∧ (adoptS s s3 w w' objs.length σ).κ (s.nx + j) = _
    simp only [adoptS]
    rw [if_pos (by omega), if_pos (by omega), Nat.add_sub_cancel_left]
    exact ⟨rfl, rfl⟩
  have hHold : ∀ i, ¬ (s.nx ≤ i ∧ i < s.nx + objs.length) → s'.H i = s.H i ∧ s'.κ i = s.κ i := by
    intro i hi
    show (adoptS s s3 w w' objs.length σ).H i = _ ∧ (adoptS s s3 w w' objs.length σ).κ i = _
    simp only [adoptS]
    rw [if_neg hi, if_neg hi]
    exact ⟨rfl, rfl⟩
  have hHlow : ∀ i, i < s.nx → s'.H i = s.H i ∧ s'.κ i = s.κ i := fun i hi => hHold i (by omega)
  have hlate : Later s s' := ⟨by show s.nx ≤ s.nx + _; omega, hm0, fun id hid => by
    obtain ⟨e1, e2⟩ := hHlow id hid
    rw [e1, e2]; exact objLe.refl _ _⟩
  have hown : ∀ k, owned s' k → owned s k ∨ (w.heap.size ≤ k ∧ ∃ j, j < objs.length ∧ blockOf (s3.κ (σ j)) = some k) := by
    rintro k ⟨id, hid, hH, hb⟩
    by_cases hi : s.nx ≤ id ∧ id < s.nx + objs.length
    · obtain ⟨j, rfl⟩ : ∃ j, id = s.nx + j := ⟨id - s.nx, by omega⟩
      have hj : j < objs.length := by omega
      rw [(hHnew j hj).2] at hb
      exact .inr ⟨hnew3 k (hown3 j k hj hb), j, hj, hb⟩
    · obtain ⟨e1, e2⟩ := hHold id hi
      rw [e1] at hH; rw [e2] at hb
      exact .inl ⟨id, hRH.fresh hH, hH, hb⟩
  have hfun : s'.H = addL s.H s.nx objs := by
    funext i
    rw [addL_eq]
    by_cases hi : s.nx ≤ i ∧ i < s.nx + objs.length
    · obtain ⟨j, rfl⟩ : ∃ j, i = s.nx + j := ⟨i - s.nx, by omega⟩
      have hj : j < objs.length := by omega
      rw [if_pos hi, (hHnew j hj).1, hobj j hj, Nat.add_sub_cancel_left]
    · rw [if_neg hi, (hHold i hi).1]
  refine ⟨v, renD (fun j => s.nx + j) r, s', he, ⟨rfl, hfun, rfl⟩, ?_, ?_, rel_ren hm3 (fun j hj => by show s.nx + j < s.nx + _; omega) hHnew r v hr hres⟩
  · refine ⟨hstep.os, hstep.tape, hstep.output, hstep.size, hlate.nx, hm0, fun a u hu => ?_, hlate.objs, fun k hk _ => hold k hk, fun k hk => ?_⟩
    · by_cases hlt : a.block < w.heap.size
      · refine .inl ?_
        have hu' : (adoptS s s3 w w' objs.length σ).m a = some u := hu
        simp only [adoptS] at hu'
        rw [if_pos hlt] at hu'; exact hu'
      · exact .inr (.inl (by omega))
    · rcases hown k hk with h1 | ⟨h1, _⟩
      · exact .inl h1
      · exact .inr h1
  · refine ⟨fun a u hu => ?_, fun id o hido => ?_, fun i j hi hj hij hbi => ?_, fun g => rel.later hlate _ _ (hRH.glob g)⟩
    · have hu' : (adoptS s s3 w w' objs.length σ).m a = some u := hu
      simp only [adoptS] at hu'
      split at hu'
      · rename_i hlt
        obtain ⟨h1, h2⟩ := hRH.mem a u hu'
        refine ⟨by rw [cell_of_heap (hold _ hlt)]; exact h1, fun h3 => ?_⟩
        rcases hown _ h3 with h4 | ⟨h4, _⟩
        · exact h2 h4
        · omega
      · rename_i hlt
        split at hu'
        · cases hu'
        · rename_i hex
          refine ⟨hu', fun h3 => ?_⟩
          rcases hown _ h3 with h4 | ⟨_, h4⟩
          · exact hlt (hRH.owned_lt h4)
          · exact hex h4
    · by_cases hi : s.nx ≤ id ∧ id < s.nx + objs.length
      · obtain ⟨j, rfl⟩ : ∃ j, id = s.nx + j := ⟨id - s.nx, by omega⟩
        have hj : j < objs.length := by omega
        obtain ⟨e1, e2⟩ := hHnew j hj
        rw [e1, hobj j hj, List.getElem?_eq_getElem hj] at hido
        cases hido
        refine ⟨by show s.nx + j < s.nx + _; omega, ?_⟩
        rw [e2]
        exact objOK.pure hm3 (ho _ (List.getElem_mem hj)) (hRH3.obj (σ j) _ (by rw [hobj j hj, List.getElem?_eq_getElem hj])).2
      · obtain ⟨e1, e2⟩ := hHold id hi
        rw [e1] at hido
        obtain ⟨h1, h2⟩ := hRH.obj id o hido
        refine ⟨by show id < s.nx + _; omega, ?_⟩
        rw [e2]
        exact h2.mono hlate fun b hb' => hold b (h2.lt hb')
    · by_cases h1 : s.nx ≤ i ∧ i < s.nx + objs.length
      · obtain ⟨i', rfl⟩ : ∃ j, i = s.nx + j := ⟨i - s.nx, by omega⟩
        have hi' : i' < objs.length := by omega
        rw [(hHnew i' hi').2] at hbi ⊢
        cases hb : blockOf (s3.κ (σ i')) with
        | none => exact (hbi hb).elim
        | some b =>
          have hb3 := hnew3 b (hown3 i' b hi' hb)
          by_cases h2 : s.nx ≤ j ∧ j < s.nx + objs.length
          · obtain ⟨j', rfl⟩ : ∃ j', j = s.nx + j' := ⟨j - s.nx, by omega⟩
            have hj' : j' < objs.length := by omega
            rw [(hHnew j' hj').2, ← hb]
            exact hRH3.apart (σ i') (σ j') (hlive i' hi') (hlive j' hj') (fun e => hij (by rw [hinj i' j' hi' hj' e])) (by rw [hb]; simp)
          · obtain ⟨e1, e2⟩ := hHold j h2
            rw [e1] at hj; rw [e2]
            intro e
            have := hRH.owned_lt (k := b) ⟨j, hRH.fresh hj, hj, e.symm⟩
            omega
      · obtain ⟨e1, e2⟩ := hHold i h1
        rw [e1] at hi; rw [e2] at hbi ⊢
        by_cases h2 : s.nx ≤ j ∧ j < s.nx + objs.length
        · obtain ⟨j', rfl⟩ : ∃ j', j = s.nx + j' := ⟨j - s.nx, by omega⟩
          have hj' : j' < objs.length := by omega
          rw [(hHnew j' hj').2]
          cases hb : blockOf (s.κ i) with
          | none => exact (hbi hb).elim
          | some b =>
            intro e
            have h3 := hnew3 b (hown3 j' b hj' e.symm)
            have := hRH.owned_lt (k := b) ⟨i, hRH.fresh hi, hi, hb⟩
            omega
        · obtain ⟨e3, e4⟩ := hHold j h2
          rw [e3] at hj; rw [e4]
          exact hRH.apart i j hi hj hij hbi

section
variable {st : St} {dst : Option Nat} {n : FuncId} {cap args : List D} {g : List Oper → (St → Prop) → St → Prop} {rest : List Oper} {K : St → Prop}
theorem OC.ac {f : FuncId} {ds : List D} {objs : List HObj} {r : D} (h : OC P f ds objs r) {H : HM} {nx : Nat} {K : D → HM → Nat → Prop} (hk : K (renD (fun j => nx + j) r) (addL H nx objs) (nx + objs.length)) : AC P f ds H nx K :=
  (h.2.2.2 H nx).mono fun _ _ _ ⟨h1, h2, h3⟩ => by subst h1; subst h2; subst h3; exact hk
theorem callW_oc {objs : List HObj} {r : D} (h : OC P n (args ++ cap) objs r) (hk : g rest K ((st.withH (addL st.H st.nx objs) (st.nx + objs.length)).put dst (renD (fun j => st.nx + j) r))) : callW P (.fn n cap) args g rest K st dst :=
  callW_ac (h.ac hk)
end
/-- The same result, only read. -/
theorem OC.pc {f : FuncId} {ds : List D} {objs : List HObj} {r r' : D} (k : Nat) (h : OC P f ds objs r) (hp : pureD r' = true) (hs : sealD P (addL noH 0 objs) k (renD (fun j => 0 + j) r) = some r') : PC P f ds r' :=
  PC_intro k h.1 hp (h.ac ⟨_, hs, Le.refl _⟩)
attribute [go_sem] addL renD renD.renL
end Go.Proofs.Ytjibdljdkgedcaa.Abs
