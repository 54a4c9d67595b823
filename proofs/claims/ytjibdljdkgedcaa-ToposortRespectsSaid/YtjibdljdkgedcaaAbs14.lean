/-
  Contracts of functions that only compute: they take and give values that are only read. No condition.
-/
import Derived.Test.YtjibdljdkgedcaaAbs13
set_option linter.unusedSimpArgs false
set_option linter.unusedVariables false
namespace Go.Proofs.Ytjibdljdkgedcaa.Abs
open Go.RowKit
variable {P : Program}

/-- Nothing of it lies in memory. -/
def flatD : D → Bool
  | .int .. | .bool _ | .str _ | .nil | .nptr | .nfun | .nmp | .e0 | .any => true
  | .tup ds => flatL ds
  | .agg ds => flatL ds
  | _ => false
where flatL : List D → Bool
  | [] => true
  | d :: ds => flatD d && flatL ds

mutual
theorem rel_flat (s s' : RS) : ∀ (d : D) (v : Value), flatD d = true → rel s d v → rel s' d v
  | .any, _, _, _ => by simp [rel]
  | .int k n, v, _, hr => by simpa [rel] using hr
  | .bool b, v, _, hr => by simpa [rel] using hr
  | .str x, v, _, hr => by simpa [rel] using hr
  | .agg ds, v, hp, hr => by
    simp only [flatD] at hp
    simp only [rel] at hr ⊢
    obtain ⟨vs, h1, h2, h3⟩ := hr
    exact ⟨vs, h1, relAll_flat s s' ds vs hp h2, h3⟩
  | .tup ds, v, hp, hr => by
    simp only [flatD] at hp
    simp only [rel] at hr ⊢
    obtain ⟨vs, h1, h2⟩ := hr
    exact ⟨vs, h1, relAll_flat s s' ds vs hp h2⟩
  | .nil, v, _, hr => by simpa [rel] using hr
  | .nptr, v, _, hr => by simpa [rel] using hr
  | .nfun, v, _, hr => by simpa [rel] using hr
  | .nmp, v, _, hr => by simpa [rel] using hr
  | .e0, v, _, hr => by simpa [rel] using hr
  | .rsl .., _, hp, _ => by cases hp
  | .fsl .., _, hp, _ => by cases hp
  | .rptr _, _, hp, _ => by cases hp
  | .fn .., _, hp, _ => by cases hp
  | .osl .., _, hp, _ => by cases hp
  | .ptr .., _, hp, _ => by cases hp
  | .eptr .., _, hp, _ => by cases hp
  | .mp _, _, hp, _ => by cases hp
  | .it _, _, hp, _ => by cases hp
theorem relAll_flat (s s' : RS) : ∀ (ds : List D) (vs : List Value), flatD.flatL ds = true → relAll s ds vs → relAll s' ds vs
  | [], vs, _, hr => by simpa [relAll] using hr
  | d :: ds, vs, hp, hr => by
    simp only [flatD.flatL, Bool.and_eq_true] at hp
    simp only [relAll] at hr ⊢
    obtain ⟨v, r, h1, h2, h3⟩ := hr
    exact ⟨v, r, h1, rel_flat s s' d v hp.1 h2, relAll_flat s s' ds r hp.2 h3⟩
end

def optL (f : D → Option D) : List D → Option (List D)
  | [] => some []
  | d :: ds => match f d, optL f ds with
    | some d', some ds' => some (d' :: ds')
    | _, _ => none
/-- What an object holds, as a value that is only read. -/
def sealD (P : Program) (H : HM) : Nat → D → Option D
  | 0, _ => none
  | k + 1, d =>
    if pureD d = true then some d else
    match d with
    | .osl id n => match H id with
      | some (.row e n' cs) => if n = n' ∧ (isAggT P e = true ∨ (isAggT P e = false ∧ sizeT P e = 1)) then (optL (sealD P H k) cs).map fun cs' => .rsl false (sizeT P e) (groupD (isAggT P e) (sizeT P e) n cs') else none
      | _ => none
    | .agg ds => (optL (sealD P H k) ds).map .agg
    | .tup ds => (optL (sealD P H k) ds).map .tup
    | .rsl nn sz els => (optL (sealD P H k) els).map (.rsl nn sz)
    | .fn f cap => (optL (sealD P H k) cap).map (.fn f)
    | .ptr id off => match H id with
      | some (.box e cs) => if off = 0 ∧ (isAggT P e = true ∨ (isAggT P e = false ∧ cs.length = 1)) then (optL (sealD P H k) cs).map fun cs' => .rptr (if isAggT P e = true then .agg cs' else (cs'[0]?).getD .any) else none
      | _ => none
    | _ => none

/-- The state with all its objects given up: they are only read from now on. -/
noncomputable def RS.shut (s : RS) (w : World) : RS :=
  { s with m := fun a => @ite _ (owned s a.block) (Classical.propDecidable _) (w.cell? a) (s.m a), H := fun _ => none }

theorem shut_state {s : RS} {w : World} (h : RH P s w) : Step s w (s.shut w) w ∧ RH P (s.shut w) w := by
  have hmem : ∀ a v, s.m a = some v → (s.shut w).m a = some v := by
    intro a v hm
    have := (h.mem a v hm).2
    simp only [RS.shut]
    rw [if_neg this]; exact hm
  have hno : ∀ k, ¬ owned (s.shut w) k := by
    rintro k ⟨id, _, hH, _⟩
    exact hH rfl
  refine ⟨⟨rfl, rfl, rfl, Nat.le_refl _, Nat.le_refl _, hmem, fun a v hm => ?_, fun id _ => ?_, fun _ _ _ => rfl, fun k ho => (hno k ho).elim⟩, ?_, ?_, ?_, fun g => rel_pure hmem _ _ (pure_globD g) (h.glob g)⟩
  · simp only [RS.shut] at hm
    by_cases ho : owned s a.block
    · exact .inr (.inr ho)
    · rw [if_neg ho] at hm; exact .inl hm
  · simp only [RS.shut]
    unfold objLe
    cases s.H id with
    | none => rfl
    | some o => cases o <;> exact .inl rfl
  · intro a v hm
    refine ⟨?_, hno _⟩
    simp only [RS.shut] at hm
    by_cases ho : owned s a.block
    · rw [if_pos ho] at hm; exact hm
    · rw [if_neg ho] at hm; exact (h.mem a v hm).1
  · intro id o ho; cases ho
  · intro i j hi; exact (hi rfl).elim

theorem seal_sound {s : RS} {w : World} (h : RH P s w) : ∀ (k : Nat) (d : D) (v : Value) (r : D), rel s d v → sealD P s.H k d = some r → rel (s.shut w) r v := by
  obtain ⟨hstep, hRH⟩ := shut_state h
  intro k
  induction k with
  | zero => intro d v r _ hs; cases hs
  | succ k ih =>
    have ihL : ∀ (ds : List D) (vs : List Value) (rs : List D), relAll s ds vs → optL (sealD P s.H k) ds = some rs → relAll (s.shut w) rs vs := by
      intro ds
      induction ds with
      | nil => intro vs rs hr hs; simp only [optL, Option.some.injEq] at hs; subst hs; simpa [relAll] using hr
      | cons d ds ihd =>
        intro vs rs hr hs
        simp only [relAll] at hr
        obtain ⟨v, q, rfl, h1, h2⟩ := hr
        simp only [optL] at hs
        split at hs
        · rename_i d' ds' hd hds
          cases hs
          exact relAll_cons (ih d v d' h1 hd) (ihd q ds' h2 hds)
        · cases hs
    intro d v r hr hs
    simp only [sealD] at hs
    split at hs
    · rename_i hp
      cases hs
      exact rel_pure hstep.mem d v hp hr
    · split at hs
      · rename_i id n _
        split at hs
        · rename_i e n' cs hid
          split at hs
          · rename_i hc
            obtain ⟨rfl, hsz⟩ := hc
            simp only [Option.map_eq_some_iff] at hs
            obtain ⟨cs', hcs, rfl⟩ := hs
            obtain ⟨vs, ho, hrv, hov, hcl, hcell⟩ := row_cells h hid
            simp only [rel] at hr
            obtain ⟨hidn, _, hlive⟩ := hr
            have hv := (hlive _ _ _ hid).2 rfl
            subst hv
            have hr' := ihL cs vs cs' hrv hcs
            have hl' : cs'.length = n * sizeT P e := by rw [← relAll_length hr', relAll_length hrv]; exact hcl
            have hg := relAll_group hsz n cs' vs hl' hr' hov
            have hgl : (groupD (isAggT P e) (sizeT P e) n cs').length = n := by rw [← relAll_length hg]; exact groupV_length _ _ _ _
            simp only [rel]
            rcases ho.2 with ⟨hv0, hn0⟩ | ⟨g, cap, cur, hv0, _, hh, hnc, hcm, _⟩
            · subst hn0
              exact .inl ⟨trivial, by rw [groupD], hv0⟩
            · have hown : owned s g := ⟨id, hidn, by rw [hid]; simp, by rw [hv0]; rfl⟩
              refine .inr ⟨⟨g, 0, none⟩, cap, _, by rw [hgl]; exact hv0, by rw [hgl]; exact hnc, hcm, hg, fun i u hu => ?_⟩
              have hi : i < n := by
                rcases Nat.lt_or_ge i n with h9 | h9
                · exact h9
                · rw [List.getElem?_eq_none (by rw [groupV_length]; exact h9)] at hu; cases hu
              rw [groupV_get _ _ _ _ _ hi] at hu
              simp only [Option.some.injEq] at hu
              subst hu
              have hvl : vs.length = n * sizeT P e := by rw [relAll_length hrv]; exact hcl
              have hmul : i * sizeT P e + sizeT P e ≤ n * sizeT P e := by
                have := Nat.mul_le_mul_right (sizeT P e) (show i + 1 ≤ n by omega)
                rw [Nat.add_mul] at this; omega
              have cellm : ∀ j c, vs[j]? = some c → (s.shut w).m ⟨g, j, none⟩ = some c := by
                intro j c hj
                simp only [RS.shut]
                rw [if_pos hown]
                exact hcell g (by rw [hv0]; rfl) j c hj
              rcases hsz with hag | ⟨hag, h1⟩
              · rw [if_pos hag]
                refine ⟨by simp [Value.cells]; omega, fun j c hj => ?_⟩
                rw [addr_add0, addr_add0, Nat.zero_add]
                simp only [Value.cells, List.getElem?_take, List.getElem?_drop] at hj
                split at hj
                · exact cellm _ _ hj
                · cases hj
              · rw [if_neg (by rw [hag]; simp)]
                rw [h1] at hmul hvl ⊢
                simp only [Nat.mul_one] at hmul hvl ⊢
                have hget : vs[i]? = some vs[i] := List.getElem?_eq_getElem (by omega)
                have h1u : (vs[i]).oneCell' = true := hov _ (List.getElem_mem _)
                rw [hget]
                simp only [Option.getD_some]
                rw [cells_of_one h1u]
                refine ⟨rfl, fun j c hj => ?_⟩
                cases j with
                | zero =>
                  simp at hj; subst hj
                  rw [addr_add0, addr_add0, Nat.zero_add]
                  exact cellm _ _ hget
                | succ j => simp at hj
          · cases hs
        · cases hs
      · rename_i ds _
        simp only [Option.map_eq_some_iff] at hs
        obtain ⟨ds', hds, rfl⟩ := hs
        simp only [rel] at hr ⊢
        obtain ⟨vs, h1, h2, h3⟩ := hr
        exact ⟨vs, h1, ihL _ _ _ h2 hds, h3⟩
      · rename_i ds _
        simp only [Option.map_eq_some_iff] at hs
        obtain ⟨ds', hds, rfl⟩ := hs
        simp only [rel] at hr ⊢
        obtain ⟨vs, h1, h2⟩ := hr
        exact ⟨vs, h1, ihL _ _ _ h2 hds⟩
      · rename_i nn sz els _
        simp only [Option.map_eq_some_iff] at hs
        obtain ⟨ds', hds, rfl⟩ := hs
        simp only [rel] at hr ⊢
        rcases hr with ⟨h1, rfl, h3⟩ | ⟨a, cap, vs, h1, h2, h3, h4, h5⟩
        · simp only [optL, Option.some.injEq] at hds; subst hds
          exact .inl ⟨h1, rfl, h3⟩
        · have h6 := ihL _ _ _ h4 hds
          have h7 : ds'.length = els.length := by rw [← relAll_length h6, relAll_length h4]
          exact .inr ⟨a, cap, vs, by rw [h7]; exact h1, by rw [h7]; exact h2, h3, h6, fun i u hu => ⟨(h5 i u hu).1, (h5 i u hu).2.later hstep.mem⟩⟩
      · rename_i f cap _
        simp only [Option.map_eq_some_iff] at hs
        obtain ⟨ds', hds, rfl⟩ := hs
        simp only [rel] at hr ⊢
        obtain ⟨vs, h1, h2⟩ := hr
        exact ⟨vs, h1, ihL _ _ _ h2 hds⟩
      · rename_i id off _
        split at hs
        · rename_i e cs hid
          split at hs
          · rename_i hc
            obtain ⟨rfl, hag⟩ := hc
            simp only [Option.map_eq_some_iff] at hs
            obtain ⟨cs', hcs, rfl⟩ := hs
            obtain ⟨b, vs, hk, hb, hrv, hov, hcell⟩ := box_cells h hid
            simp only [rel] at hr
            obtain ⟨hidn, _, hlive⟩ := hr
            obtain ⟨b', h1, h2⟩ := hlive _ _ hid
            have hbb : b' = b := by rw [h1] at hk; cases hk; rfl
            subst hbb
            have hr' := ihL cs vs cs' hrv hcs
            have hown : owned s b' := ⟨id, hidn, by rw [hid]; simp, by rw [h1]; rfl⟩
            have cellm : ∀ j c, vs[j]? = some c → (s.shut w).m ⟨b', j, none⟩ = some c := by
              intro j c hj
              simp only [RS.shut]
              rw [if_pos hown]
              exact hcell j c hj
            simp only [rel]
            rcases hag with hag | ⟨hag, hl1⟩
            · rw [if_pos hag]
              refine ⟨⟨b', 0, none⟩, .agg vs.toArray, h2, by simp only [rel]; exact ⟨vs, rfl, hr', hov⟩, fun j c hj => ?_⟩
              rw [addr_add0, Nat.zero_add]
              exact cellm j c (by simpa [Value.cells] using hj)
            · rw [if_neg (by rw [hag]; simp)]
              have hl2 : vs.length = 1 := by rw [relAll_length hrv]; exact hl1
              obtain ⟨u, rfl⟩ := List.length_eq_one_iff.1 hl2
              have hl3 : cs'.length = 1 := by rw [← relAll_length hr']; rfl
              obtain ⟨c0, rfl⟩ := List.length_eq_one_iff.1 hl3
              simp only [relAll] at hr'
              obtain ⟨u', q, hu, hcr, _⟩ := hr'
              cases hu
              have h1u : u.oneCell' = true := hov _ (by simp)
              refine ⟨⟨b', 0, none⟩, u, h2, hcr, fun j c hj => ?_⟩
              rw [cells_of_one h1u] at hj
              rw [addr_add0, Nat.zero_add]
              exact cellm j c (by simpa using hj)
          · cases hs
        · cases hs
      · cases hs

def noH : HM := fun _ => none
/-- A contract of a function that only computes. -/
def PC (P : Program) (f : FuncId) (ds : List D) (r : D) : Prop :=
  pureD.pureL ds = true ∧ pureD r = true ∧ AC P f ds noH 0 fun r' _ _ => r' = r

/-- What reads as the one reads as the other. -/
def Le (d d' : D) : Prop := ∀ s v, rel s d v → rel s d' v
theorem Le.refl (d : D) : Le d d := fun _ _ h => h
theorem Le.nil (sz : Nat) : Le .nil (.rsl false sz []) := fun s v h => by simp only [rel] at h ⊢; exact .inl ⟨trivial, trivial, h⟩
theorem Le.rsl {nn : Bool} {sz : Nat} {els : List D} : Le (.rsl nn sz els) (.rsl false sz els) := fun s v h => by
  simp only [rel] at h ⊢
  rcases h with ⟨_, h1, h2⟩ | h
  · exact .inl ⟨trivial, h1, h2⟩
  · exact .inr h
def LeL : List D → List D → Prop
  | [], [] => True
  | d :: ds, e :: es => Le d e ∧ LeL ds es
  | _, _ => False
theorem relAll_le {s : RS} : ∀ {ds es : List D} {vs : List Value}, LeL ds es → relAll s ds vs → relAll s es vs
  | [], [], _, _, h => h
  | [], _ :: _, _, h, _ => h.elim
  | _ :: _, [], _, h, _ => h.elim
  | d :: ds, e :: es, vs, h, hr => by
    simp only [relAll] at hr ⊢
    obtain ⟨v, r, h1, h2, h3⟩ := hr
    exact ⟨v, r, h1, h.1 _ _ h2, relAll_le h.2 h3⟩
theorem Le.tup {ds es : List D} (h : LeL ds es) : Le (.tup ds) (.tup es) := fun s v hr => by
  simp only [rel] at hr ⊢
  obtain ⟨vs, h1, h2⟩ := hr
  exact ⟨vs, h1, relAll_le h h2⟩
theorem Le.agg {ds es : List D} (h : LeL ds es) : Le (.agg ds) (.agg es) := fun s v hr => by
  simp only [rel] at hr ⊢
  obtain ⟨vs, h1, h2, h3⟩ := hr
  exact ⟨vs, h1, relAll_le h h2, h3⟩

/-- The value that is returned, shut, reads as r. -/
def Fin (P : Program) (k : Nat) (r : D) : D → HM → Nat → Prop := fun r' H _ => ∃ d, sealD P H k r' = some d ∧ Le d r

theorem AC.shut {f : FuncId} {ds : List D} {H : HM} {nx : Nat} {r : D} {k : Nat} (h : AC P f ds H nx (Fin P k r)) : AC P f ds H nx fun r' _ _ => r' = r := by
  refine ⟨h.1, fun s w vs h1 h2 h3 h4 => (h.2 s w vs h1 h2 h3 h4).mono fun e w' ⟨v, r', s', he, ⟨d, hs, hle⟩, hstep, hRH, hr⟩ => ?_⟩
  obtain ⟨g1, g2⟩ := shut_state hRH
  exact ⟨v, r, s'.shut w', he, rfl, hstep.trans g1, g2, hle _ _ (seal_sound hRH k r' v d hr hs)⟩

theorem PC_intro {f : FuncId} {ds : List D} {r : D} (k : Nat) (hds : pureD.pureL ds = true) (hr : pureD r = true) (h : AC P f ds noH 0 (Fin P k r)) : PC P f ds r :=
  ⟨hds, hr, h.shut⟩

theorem PC_lift {f : FuncId} {ds : List D} {r : D} (h : PC P f ds r) {s s1 : RS} {w : World} {vs : List Value} (hRH : RH P s w) (hRH1 : RH P s1 w) (hr1 : relAll s1 ds vs)
    (hsub : (∀ a v, s1.m a = some v → s.m a = some v) ∨ flatD r = true) :
    Calls P f vs.toArray w fun e w' => ∃ v r' s', e = .returned v ∧ (r' = r ∧ s'.H = s.H ∧ s'.nx = s.nx) ∧ Step s w s' w' ∧ RH P s' w' ∧ rel s' r' v := by
  let s2 : RS := { s1 with H := noH, nx := 0 }
  have hno : ∀ k, ¬ owned s2 k := by rintro k ⟨id, hid, _⟩; exact absurd hid (Nat.not_lt_zero _)
  have hRH2 : RH P s2 w := ⟨fun a v hmm => ⟨(hRH1.mem a v hmm).1, hno _⟩, fun id o ho => (by cases ho), fun i j hi => (hi rfl).elim, fun g => rel_pure (s := s1) (s' := s2) (fun a v hm => hm) _ _ (pure_globD g) (hRH1.glob g)⟩
  have hr2 : relAll s2 ds vs := relAll_pure (s := s1) (s' := s2) (fun a v hm => hm) ds vs h.1 hr1
  refine (h.2.2.2 s2 w vs rfl rfl hRH2 hr2).mono fun e w' ⟨v, r', s3, he, hrr, hstep, hRH3, hrel⟩ => ?_
  subst hrr
  have hold : ∀ k, k < w.heap.size → w'.heap[k]? = w.heap[k]? := fun k hk => hstep.keep k hk (hno k)
  have hgrew : Grew w w' := ⟨hstep.os, hstep.tape, hstep.output, hstep.size, hold⟩
  obtain ⟨g1, g2⟩ := new_mem hRH hgrew
  refine ⟨v, r', s.grow w w', he, ⟨rfl, rfl, rfl⟩, g1, g2, ?_⟩
  rcases hsub with hsub | hflat
  · refine rel_pure (fun a u hm3 => ?_) r' v h.2.1 hrel
    simp only [RS.grow]
    rcases hstep.new a u hm3 with h1 | h1 | h1
    · have hlt := hRH1.mem_lt h1
      rw [if_pos hlt]; exact hsub a u h1
    · rw [if_neg (by omega)]; exact (hRH3.mem a u hm3).1
    · exact (hno _ h1).elim
  · exact rel_flat _ _ r' v hflat hrel

/-- The contract where the caller has objects of its own. -/
theorem PC.rc {f : FuncId} {ds : List D} {r : D} (h : PC P f ds r) (H : HM) (nx : Nat) : RC P f ds H nx r := by
  refine ⟨h.2.2.1, fun s w vs hH hnx hRH hr => ?_⟩
  subst hH; subst hnx
  let s1 : RS := { s with H := noH, nx := 0 }
  have hno : ∀ k, ¬ owned s1 k := by rintro k ⟨id, hid, _⟩; exact absurd hid (Nat.not_lt_zero _)
  exact PC_lift h (s1 := s1) hRH ⟨fun a v hmm => ⟨(hRH.mem a v hmm).1, hno _⟩, fun id o ho => (by cases ho), fun i j hi => (hi rfl).elim, fun g => rel_pure (s := s) (s' := s1) (fun a v hm => hm) _ _ (pure_globD g) (hRH.glob g)⟩ (relAll_pure (s := s) (s' := s1) (fun a v hm => hm) ds vs h.1 hr) (.inl fun a v hm => hm)

theorem sealL_sound {s : RS} {w : World} (h : RH P s w) (k : Nat) : ∀ (ds : List D) (vs : List Value) (rs : List D), relAll s ds vs → optL (sealD P s.H k) ds = some rs → relAll (s.shut w) rs vs
  | [], vs, rs, hr, hs => by simp only [optL, Option.some.injEq] at hs; subst hs; simpa [relAll] using hr
  | d :: ds, vs, rs, hr, hs => by
    simp only [relAll] at hr
    obtain ⟨v, q, rfl, h1, h2⟩ := hr
    simp only [optL] at hs
    split at hs
    · rename_i d' ds' hd hds
      cases hs
      exact relAll_cons (seal_sound h k d v d' h1 hd) (sealL_sound h k ds q ds' h2 hds)
    · cases hs
/-- The contract where arguments lie in objects of the caller's own, and the result in no memory. -/
theorem PC.borrow {f : FuncId} {ds ds' : List D} {r : D} (h : PC P f ds' r) (hf : flatD r = true) (k : Nat) {H : HM} {nx : Nat} (hs : optL (sealD P H k) ds = some ds') : RC P f ds H nx r := by
  refine ⟨h.2.2.1, fun s w vs hH hnx hRH hr => ?_⟩
  subst hH; subst hnx
  obtain ⟨g1, g2⟩ := shut_state hRH
  exact PC_lift h (s1 := s.shut w) hRH g2 (sealL_sound hRH k ds vs ds' hr hs) (.inr hf)
theorem PC.ac {f : FuncId} {ds : List D} {r : D} (h : PC P f ds r) {H : HM} {nx : Nat} {K : D → HM → Nat → Prop} (hk : K r H nx) : AC P f ds H nx K :=
  AC.mono (h.rc H nx) fun _ _ _ ⟨h1, h2, h3⟩ => by subst h1; subst h2; subst h3; exact hk
theorem RC.ac {f : FuncId} {ds : List D} {r : D} {H : HM} {nx : Nat} (h : RC P f ds H nx r) {K : D → HM → Nat → Prop} (hk : K r H nx) : AC P f ds H nx K :=
  AC.mono h fun _ _ _ ⟨h1, h2, h3⟩ => by subst h1; subst h2; subst h3; exact hk

end Go.Proofs.Ytjibdljdkgedcaa.Abs
