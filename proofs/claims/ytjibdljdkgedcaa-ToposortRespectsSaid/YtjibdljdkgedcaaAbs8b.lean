/-
  Rows that are given up, and appends to nothing: new memory that is only read. No condition.
-/
import Derived.Test.YtjibdljdkgedcaaAbs8
set_option linter.unusedSimpArgs false
set_option linter.unusedVariables false
namespace Go.Proofs.Ytjibdljdkgedcaa.Abs
open Go.RowKit
variable {P : Program}

mutual
theorem rel_pure {s s' : RS} (hm : ∀ a v, s.m a = some v → s'.m a = some v) : ∀ (d : D) (v : Value), pureD d = true → rel s d v → rel s' d v
  | .any, _, _, _ => by simp [rel]
  | .int k n, v, _, hr => by simpa [rel] using hr
  | .bool b, v, _, hr => by simpa [rel] using hr
  | .str x, v, _, hr => by simpa [rel] using hr
  | .agg ds, v, hp, hr => by
    simp only [pureD] at hp
    simp only [rel] at hr ⊢
    obtain ⟨vs, h1, h2, h3⟩ := hr
    exact ⟨vs, h1, relAll_pure hm ds vs hp h2, h3⟩
  | .tup ds, v, hp, hr => by
    simp only [pureD] at hp
    simp only [rel] at hr ⊢
    obtain ⟨vs, h1, h2⟩ := hr
    exact ⟨vs, h1, relAll_pure hm ds vs hp h2⟩
  | .nil, v, _, hr => by simpa [rel] using hr
  | .rsl nn sz els, v, hp, hr => by
    simp only [pureD] at hp
    simp only [rel] at hr ⊢
    rcases hr with hr | ⟨a, cap, vs, h1, h2, h3, h4, h5⟩
    · exact .inl hr
    · exact .inr ⟨a, cap, vs, h1, h2, h3, relAll_pure hm els vs hp h4, fun i u hu => ⟨(h5 i u hu).1, (h5 i u hu).2.later hm⟩⟩
  | .nptr, v, _, hr => by simpa [rel] using hr
  | .rptr d, v, hp, hr => by
    simp only [pureD] at hp
    simp only [rel] at hr ⊢
    obtain ⟨a, u, h1, h2, h3⟩ := hr
    exact ⟨a, u, h1, rel_pure hm d u hp h2, h3.later hm⟩
  | .nfun, v, _, hr => by simpa [rel] using hr
  | .fn f cap, v, hp, hr => by
    simp only [pureD] at hp
    simp only [rel] at hr ⊢
    obtain ⟨vs, h1, h2⟩ := hr
    exact ⟨vs, h1, relAll_pure hm cap vs hp h2⟩
  | .osl .., _, hp, _ => by cases hp
  | .ptr .., _, hp, _ => by cases hp
  | .eptr .., _, hp, _ => by cases hp
  | .mp _, _, hp, _ => by cases hp
  | .it _, _, hp, _ => by cases hp
  | .nmp, v, _, hr => by simpa [rel] using hr
  | .e0, v, _, hr => by simpa [rel] using hr
  | .fsl sz els, v, hp, hr => by
    simp only [pureD] at hp
    simp only [rel] at hr ⊢
    rcases hr with hr | ⟨a, vs, h1, h3, h4, h5⟩
    · exact .inl hr
    exact .inr ⟨a, vs, h1, h3, relAll_pure hm els vs hp h4, fun i u hu => ⟨(h5 i u hu).1, (h5 i u hu).2.later hm⟩⟩
theorem relAll_pure {s s' : RS} (hm : ∀ a v, s.m a = some v → s'.m a = some v) : ∀ (ds : List D) (vs : List Value), pureD.pureL ds = true → relAll s ds vs → relAll s' ds vs
  | [], vs, _, hr => by simpa [relAll] using hr
  | d :: ds, vs, hp, hr => by
    simp only [pureD.pureL, Bool.and_eq_true] at hp
    simp only [relAll] at hr ⊢
    obtain ⟨v, r, h1, h2, h3⟩ := hr
    exact ⟨v, r, h1, rel_pure hm d v hp.1 h2, relAll_pure hm ds r hp.2 h3⟩
end
def groupV (ag : Bool) (sz : Nat) : Nat → List Value → List Value
  | 0, _ => []
  | n + 1, cs => (if ag = true then .agg (cs.take sz).toArray else (cs[0]?).getD undef) :: groupV ag sz n (cs.drop sz)

theorem groupV_length (ag : Bool) (sz : Nat) : ∀ (n : Nat) (vs : List Value), (groupV ag sz n vs).length = n
  | 0, _ => rfl
  | n + 1, vs => by simp [groupV, groupV_length ag sz n]
theorem groupV_get (ag : Bool) (sz : Nat) : ∀ (n : Nat) (vs : List Value) (i : Nat), i < n → (groupV ag sz n vs)[i]? = some (if ag = true then .agg ((vs.drop (i * sz)).take sz).toArray else (vs[i * sz]?).getD undef)
  | 0, _, i, h => by omega
  | n + 1, vs, 0, _ => by simp [groupV]
  | n + 1, vs, i + 1, h => by
    simp only [groupV, List.getElem?_cons_succ]
    rw [groupV_get ag sz n _ i (by omega)]
    have : sz + i * sz = (i + 1) * sz := by rw [Nat.add_mul]; omega
    simp only [List.drop_drop, List.getElem?_drop, this]
theorem relAll_group {s : RS} {ag : Bool} {sz : Nat} (hsz : ag = true ∨ (ag = false ∧ sz = 1)) : ∀ (n : Nat) (cs : List D) (vs : List Value), cs.length = n * sz → relAll s cs vs → ones vs → relAll s (groupD ag sz n cs) (groupV ag sz n vs)
  | 0, _, _, _, _, _ => relAll_nil
  | n + 1, cs, vs, hl, hr, h1 => by
    simp only [groupD, groupV]
    have hl' : (cs.drop sz).length = n * sz := by simp [hl, Nat.add_mul]
    refine relAll_cons ?_ (relAll_group hsz n _ _ hl' (relAll_drop sz hr) (ones_drop h1 _))
    rcases hsz with rfl | ⟨rfl, rfl⟩
    · simp only [if_true, rel]
      exact ⟨_, rfl, relAll_take sz hr, ones_take h1 _⟩
    · simp only [Bool.false_eq_true, if_false]
      cases cs with
      | nil => simp at hl
      | cons c cs =>
        simp only [relAll] at hr
        obtain ⟨v, r, rfl, h2, _⟩ := hr
        simpa using h2


theorem oneOK_or {e : TypeId} (h : oneOK P e = true) : isAggT P e = true ∨ (isAggT P e = false ∧ sizeT P e = 1) := by
  unfold oneOK at h
  simp only [Bool.or_eq_true, Bool.and_eq_true, Bool.not_eq_true', beq_iff_eq] at h
  exact h

/-- One object is given up. -/
noncomputable def RS.shut1 (s : RS) (w : World) (id : Nat) : RS :=
  { s with m := fun a => @ite _ (blockOf (s.κ id) = some a.block) (Classical.propDecidable _) (w.cell? a) (s.m a), H := updH s.H id none }
theorem shut1_state {s : RS} {w : World} (h : RH P s w) {id : Nat} (hid : s.H id ≠ none) : Step s w (s.shut1 w id) w ∧ RH P (s.shut1 w id) w := by
  have hlt := h.fresh hid
  have hown : ∀ a : Addr, blockOf (s.κ id) = some a.block → owned s a.block := fun a hb => ⟨id, hlt, hid, hb⟩
  have hmem : ∀ a v, s.m a = some v → (s.shut1 w id).m a = some v := by
    intro a v hm
    simp only [RS.shut1]
    rw [if_neg (fun hb => (h.mem a v hm).2 (hown a hb))]; exact hm
  have hHo : ∀ j, (s.shut1 w id).H j ≠ none → j ≠ id ∧ (s.shut1 w id).H j = s.H j := by
    intro j hj
    simp only [RS.shut1, updH] at hj ⊢
    by_cases hji : j = id
    · rw [if_pos hji] at hj; exact (hj rfl).elim
    · exact ⟨hji, if_neg hji⟩
  have hownL : ∀ k, owned (s.shut1 w id) k → owned s k := by
    rintro k ⟨j, hj, hH, hb⟩
    obtain ⟨_, e⟩ := hHo j hH
    exact ⟨j, hj, by rw [← e]; exact hH, hb⟩
  have hlater : Later s (s.shut1 w id) := by
    refine ⟨Nat.le_refl _, hmem, fun j _ => ?_⟩
    simp only [RS.shut1, updH]
    by_cases hji : j = id
    · subst hji
      rw [if_pos rfl]
      unfold objLe
      cases s.H j with
      | none => rfl
      | some o => cases o <;> exact .inl rfl
    · rw [if_neg hji]; exact objLe.refl _ _
  refine ⟨⟨rfl, rfl, rfl, Nat.le_refl _, Nat.le_refl _, hmem, fun a v hm => ?_, hlater.objs, fun _ _ _ => rfl, fun k ho => .inl (hownL k ho)⟩, ?_, ?_, ?_, fun g => rel.later hlater _ _ (h.glob g)⟩
  · simp only [RS.shut1] at hm
    by_cases hb : blockOf (s.κ id) = some a.block
    · exact .inr (.inr (hown a hb))
    · rw [if_neg hb] at hm; exact .inl hm
  · intro a v hm
    simp only [RS.shut1] at hm
    by_cases hb : blockOf (s.κ id) = some a.block
    · rw [if_pos hb] at hm
      refine ⟨hm, ?_⟩
      rintro ⟨j, hj, hH, hbj⟩
      obtain ⟨hji, e⟩ := hHo j hH
      rw [e] at hH
      have hbj' : blockOf (s.κ j) = some a.block := hbj
      exact h.apart j id hH hid hji (by rw [hbj']; simp) (by rw [hbj', hb])
    · rw [if_neg hb] at hm
      exact ⟨(h.mem a v hm).1, fun ho => (h.mem a v hm).2 (hownL _ ho)⟩
  · intro j o ho
    obtain ⟨hji, e⟩ := hHo j (by rw [ho]; simp)
    rw [e] at ho
    obtain ⟨h1, h2⟩ := h.obj j o ho
    exact ⟨h1, h2.mono hlater fun b hb' => rfl⟩
  · intro i j hi hj hij hbi
    obtain ⟨_, e1⟩ := hHo i hi
    obtain ⟨_, e2⟩ := hHo j hj
    rw [e1] at hi; rw [e2] at hj
    exact h.apart i j hi hj hij hbi

theorem shutR_sound {s : RS} {w : World} (h : RH P s w) {d d' : D} {v : Value} {H H' : HM} {nx nx' : Nat} (hH : s.H = H) (hn : s.nx = nx) (hr : rel s d v) (hs : shutR P (d, H, nx) = some (d', H', nx')) :
    ∃ s', Step s w s' w ∧ RH P s' w ∧ s'.H = H' ∧ s'.nx = nx' ∧ rel s' d' v ∧ ∀ id n, d = .osl id n → s' = s.shut1 w id := by
  subst hH; subst hn
  unfold shutR at hs
  split at hs
  · rename_i x id n H0 nx0 heq
    cases heq
    split at hs
    · rename_i e k cs hid
      split at hs
      · rename_i hc
        obtain ⟨rfl, ho, hp⟩ := hc
        have hsz := oneOK_or ho
        simp only [Option.some.injEq, Prod.mk.injEq] at hs
        obtain ⟨rfl, rfl, rfl⟩ := hs
        obtain ⟨g1, g2⟩ := shut1_state h (id := id) (by rw [hid]; simp)
        refine ⟨s.shut1 w id, g1, g2, rfl, rfl, ?_, fun _ _ h => by cases h; rfl⟩
        obtain ⟨vs, hown, hrv, hov, hcl, hcell⟩ := row_cells h hid
        simp only [rel] at hr
        obtain ⟨hidn, _, hlive⟩ := hr
        have hv := (hlive _ _ _ hid).2 rfl
        subst hv
        have hr' := relAll_pure g1.mem cs vs hp hrv
        have hg := relAll_group hsz n cs vs hcl hr' hov
        have hgl : (groupD (isAggT P e) (sizeT P e) n cs).length = n := by rw [← relAll_length hg]; exact groupV_length _ _ _ _
        simp only [rel]
        rcases hown.2 with ⟨hv0, hn0⟩ | ⟨g, cap, cur, hv0, _, hh, hnc, hcm, _⟩
        · subst hn0
          exact .inl ⟨trivial, by rw [groupD], hv0⟩
        · refine .inr ⟨⟨g, 0, none⟩, cap, _, by rw [hgl]; exact hv0, by rw [hgl]; exact hnc, hcm, hg, fun i u hu => ?_⟩
          have hi : i < n := by
            rcases Nat.lt_or_ge i n with h9 | h9
            · exact h9
            · rw [List.getElem?_eq_none (by rw [groupV_length]; exact h9)] at hu; cases hu
          rw [groupV_get _ _ _ _ _ hi] at hu
          simp only [Option.some.injEq] at hu
          subst hu
          have hvl : vs.length = n * sizeT P e := by rw [relAll_length hrv]; exact hcl
          have hmul : i * sizeT P e + sizeT P e ≤ n * sizeT P e := by
            have := Nat.mul_le_mul_right (sizeT P e) (show i + 1 ≤ n by omega)
            rw [Nat.add_mul] at this; omega
          have cellm : ∀ j c, vs[j]? = some c → (s.shut1 w id).m ⟨g, j, none⟩ = some c := by
            intro j c hj
            simp only [RS.shut1]
            rw [if_pos (by rw [hv0]; rfl)]
            exact hcell g (by rw [hv0]; rfl) j c hj
          rcases hsz with hag | ⟨hag, h1⟩
          · rw [if_pos hag]
            refine ⟨by simp [Value.cells]; omega, fun j c hj => ?_⟩
            rw [addr_add0, addr_add0, Nat.zero_add]
            simp only [Value.cells, List.getElem?_take, List.getElem?_drop] at hj
            split at hj
            · exact cellm _ _ hj
            · cases hj
          · rw [if_neg (by rw [hag]; simp)]
            rw [h1] at hmul hvl ⊢
            simp only [Nat.mul_one] at hmul hvl ⊢
            have hget : vs[i]? = some vs[i] := List.getElem?_eq_getElem (by omega)
            have h1u : (vs[i]).oneCell' = true := hov _ (List.getElem_mem _)
            rw [hget]
            simp only [Option.getD_some]
            rw [cells_of_one h1u]
            refine ⟨rfl, fun j c hj => ?_⟩
            cases j with
            | zero =>
              simp at hj; subst hj
              rw [addr_add0, addr_add0, Nat.zero_add]
              exact cellm _ _ hget
            | succ j => simp at hj
      · cases hs
    · cases hs
  · cases hs

theorem pureL_app8 (a b : List D) : pureD.pureL (a ++ b) = (pureD.pureL a && pureD.pureL b) := by
  induction a with
  | nil => rfl
  | cons x a ih => simp only [List.cons_append, pureD.pureL, ih, Bool.and_assoc]
/-- New cells behind a slice, as a value that is only read. -/
theorem rel_new {s : RS} {w w' : World} {e : TypeId} {m cap : Nat} {news : List D} {us : List Value} (h : RH P s w) (hg : Grew w w') (ho : oneOK P e = true) (hlen : us.length = m * sizeT P e)
    (hr : relAll s news us) (hp : pureD.pureL news = true) (h1 : ones us) (hm : m ≤ cap) (hc : cap ≤ maxLen)
    (hcell : ∀ j u, us[j]? = some u → w'.cell? ⟨w.heap.size, j, none⟩ = some u) (nn : Bool) :
    rel (s.grow w w') (.rsl nn (sizeT P e) (groupD (isAggT P e) (sizeT P e) m news)) (.slice (some ⟨w.heap.size, 0, none⟩) m cap) := by
  have hsz := oneOK_or ho
  obtain ⟨g1, _⟩ := new_mem h hg
  have hr' := relAll_pure g1.mem news us hp hr
  have hnl : news.length = m * sizeT P e := by rw [← relAll_length hr]; exact hlen
  have hgv := relAll_group hsz m news us hnl hr' h1
  have hgl : (groupD (isAggT P e) (sizeT P e) m news).length = m := by rw [← relAll_length hgv]; exact groupV_length _ _ _ _
  simp only [rel]
  refine .inr ⟨⟨w.heap.size, 0, none⟩, cap, _, by rw [hgl], by rw [hgl]; exact hm, hc, hgv, fun i u hu => ?_⟩
  have hi : i < m := by
    rcases Nat.lt_or_ge i m with h9 | h9
    · exact h9
    · rw [List.getElem?_eq_none (by rw [groupV_length]; exact h9)] at hu; cases hu
  rw [groupV_get _ _ _ _ _ hi] at hu
  simp only [Option.some.injEq] at hu
  subst hu
  have hmul : i * sizeT P e + sizeT P e ≤ m * sizeT P e := by
    have := Nat.mul_le_mul_right (sizeT P e) (show i + 1 ≤ m by omega)
    rw [Nat.add_mul] at this; omega
  have cellm : ∀ j c, us[j]? = some c → (s.grow w w').m ⟨w.heap.size, j, none⟩ = some c := by
    intro j c hj
    simp only [RS.grow]
    rw [if_neg (by simp)]
    exact hcell j c hj
  rcases hsz with hag | ⟨hag, hone⟩
  · rw [if_pos hag]
    refine ⟨by simp [Value.cells]; omega, fun j c hj => ?_⟩
    rw [addr_add0, addr_add0, Nat.zero_add]
    simp only [Value.cells, List.getElem?_take, List.getElem?_drop] at hj
    split at hj
    · exact cellm _ _ hj
    · cases hj
  · rw [if_neg (by rw [hag]; simp)]
    rw [hone] at hmul hlen ⊢
    simp only [Nat.mul_one] at hmul hlen ⊢
    have hget : us[i]? = some us[i] := List.getElem?_eq_getElem (by omega)
    have h1u : (us[i]).oneCell' = true := h1 _ (List.getElem_mem _)
    rw [hget]
    simp only [Option.getD_some]
    rw [cells_of_one h1u]
    refine ⟨rfl, fun j c hj => ?_⟩
    cases j with
    | zero =>
      simp at hj; subst hj
      rw [addr_add0, addr_add0, Nat.zero_add]
      exact cellm _ _ hget
    | succ j => simp at hj

theorem appendE_sound {s : RS} {w : World} (h : RH P s w) {t ty : TypeId} {x y d : D} {vx vy : Value} (hd : appendE P s.H t x y = some d) (hx : rel s x vx) (hy : rel s y vy) :
    ∃ v s' w', (Builtin.append_ #[t, t] ty #[vx, vy]).run P w = .ok v w' ∧ Step s w s' w' ∧ RH P s' w' ∧ s'.H = s.H ∧ s'.nx = s.nx ∧ rel s' d v := by
  unfold appendE at hd
  cases he : elemT P t with
  | none => rw [he] at hd; cases hd
  | some e =>
    rw [he] at hd
    have hu := elemT_some he
    simp only at hd
    split at hd
    · rename_i hc
      obtain ⟨hpos, hz, hone⟩ := hc
      simp only [Option.bind_eq_some_iff] at hd
      obtain ⟨⟨m, news⟩, hsrc, hd⟩ := hd
      simp only at hd
      split at hd
      · rename_i hb
        obtain ⟨hb1, hb2, hp⟩ := hb
        have hs := source_sound h hpos rfl hsrc hy
        obtain ⟨i, z, hi, hzz, hzs⟩ := hasZero_some hz
        have hsz : i.size = sizeT P e := by simp [sizeT, hi]
        have hby : i.bytes = bytesT P e := by simp [bytesT, hi]
        have hsmall : m ≤ 9223372036854775807 := by simp only [maxLen] at hb2; omega
        have hcap : ∀ n, n ≤ maxLen → ∀ w0 : World, n ≤ grownCap w0 n 0 e ∧ grownCap w0 n 0 e ≤ maxLen := fun n hn w0 => ⟨by simp only [grownCap, Question.cut]; omega, grownCap_le_maxLen w0 n 0 e hn⟩
        split at hd
        · -- an empty literal
          cases hd
          simp only [rel] at hx
          obtain ⟨b, rfl⟩ := hx
          have stay : m = 0 → rel s (.rsl false (sizeT P e) (groupD (isAggT P e) (sizeT P e) m news)) (.slice (some b) 0 0) := by
            intro h0
            subst h0
            simp only [rel, groupD]
            exact .inr ⟨b, 0, [], rfl, Nat.le_refl _, by simp [maxLen], relAll_nil, fun i v hv => by simp at hv⟩
          rcases hs with ⟨rfl, rfl, rfl⟩ | ⟨a, c, us, rfl, hr, h1, hl, hcell⟩
          · refine ⟨.slice (some b) 0 0, s, w, ?_, Step.refl s w, h, rfl, rfl, stay rfl⟩
            simp [Builtin.append_, run_underlying hu, sizeOf, typeInfo, hi, Builtin.lenOf, Builtin.firstCells, storeCells]
          · by_cases h0 : m = 0
            · subst h0
              have hus : us = [] := List.eq_nil_of_length_eq_zero (by simpa using hl)
              subst hus
              refine ⟨.slice (some b) 0 0, s, w, ?_, Step.refl s w, h, rfl, rfl, stay rfl⟩
              have hf := run_firstCells_some (P := P) w i.size 0 a 0 c [] (by simp) (by simp)
              simp [Builtin.append_, run_underlying hu, sizeOf, typeInfo, hi, Builtin.lenOf, hf, storeCells]
            · have hrun := run_append_grow (P := P) w t ty e i z hu hi hzz b 0 0 [] (by simp) (by simp) a m c us (by rw [hl, hsz]) hcell (by omega) (by omega) (by rw [hby]; exact growslice_fits (by omega) (by simpa using hb1))
              simp only [Nat.zero_add] at hrun
              have hgrew : Grew w (w.drew.alloc (.cells ((([] : List Value).toArray ++ us.toArray) ++ Builtin.zeroCells z.cells (grownCap w m 0 e - m)) e)) := Grew.of_drew (Grew.alloc _ _)
              obtain ⟨g1, g2⟩ := new_mem h hgrew
              refine ⟨_, _, _, hrun, g1, g2, rfl, rfl, rel_new h hgrew hone hl hr hp h1 (hcap m hb2 w).1 (hcap m hb2 w).2 (fun j u hj => ?_) false⟩
              have hj' : j < us.length := (List.getElem?_eq_some_iff.1 hj).1
              rw [show (w.drew.alloc (.cells ((([] : List Value).toArray ++ us.toArray) ++ Builtin.zeroCells z.cells (grownCap w m 0 e - m)) e)).cell? ⟨w.heap.size, j, none⟩ = _ from World.cell?_alloc_new (w := w.drew) _ _ _]
              rw [Array.getElem?_append_left (by simpa using hj')]
              simpa using hj
        · -- nil
          cases hd
          simp only [rel] at hx
          subst hx
          have stay : m = 0 → news = [] → rel s (.rsl false (sizeT P e) (groupD (isAggT P e) (sizeT P e) m news)) (.slice none 0 0) := by
            intro h0 hn
            subst h0
            simp only [rel, groupD]
            simp
          rcases hs with ⟨rfl, rfl, rfl⟩ | ⟨a, c, us, rfl, hr, h1, hl, hcell⟩
          · refine ⟨.slice none 0 0, s, w, ?_, Step.refl s w, h, rfl, rfl, stay rfl rfl⟩
            simp [Builtin.append_, run_underlying hu, sizeOf, typeInfo, hi, Builtin.lenOf, Builtin.firstCells]
          · by_cases h0 : m = 0
            · subst h0
              have hus : us = [] := List.eq_nil_of_length_eq_zero (by simpa using hl)
              subst hus
              have hn0 : news = [] := List.eq_nil_of_length_eq_zero (by rw [← relAll_length hr]; rfl)
              refine ⟨.slice none 0 0, s, w, ?_, Step.refl s w, h, rfl, rfl, stay rfl hn0⟩
              have hf := run_firstCells_some (P := P) w i.size 0 a 0 c [] (by simp) (by simp)
              simp [Builtin.append_, run_underlying hu, sizeOf, typeInfo, hi, Builtin.lenOf, hf]
            · have hrun := run_append_nil (P := P) w t ty e i z hu hi hzz a m c us (by rw [hl, hsz]) hcell (by omega) (by omega) (by rw [hby]; omega)
              have hgrew : Grew w (w.drew.alloc (.cells (us.toArray ++ Builtin.zeroCells z.cells (grownCap w m 0 e - m)) e)) := Grew.of_drew (Grew.alloc _ _)
              obtain ⟨g1, g2⟩ := new_mem h hgrew
              refine ⟨_, _, _, hrun, g1, g2, rfl, rfl, rel_new h hgrew hone hl hr hp h1 (hcap m hb2 w).1 (hcap m hb2 w).2 (fun j u hj => ?_) false⟩
              have hj' : j < us.length := (List.getElem?_eq_some_iff.1 hj).1
              rw [show (w.drew.alloc (.cells (us.toArray ++ Builtin.zeroCells z.cells (grownCap w m 0 e - m)) e)).cell? ⟨w.heap.size, j, none⟩ = _ from World.cell?_alloc_new (w := w.drew) _ _ _]
              rw [Array.getElem?_append_left (by simpa using hj')]
              simpa using hj
        · -- a slice without room behind it
          rename_i sz els
          split at hd
          · rename_i hc3
            obtain ⟨hm0, rfl, hb3, hb4⟩ := hc3
            simp only [Option.bind_eq_some_iff] at hd
            obtain ⟨cs, hcs, hd⟩ := hd
            split at hd
            · rename_i hpc
              cases hd
              have hx0 := hx
              simp only [rel] at hx0
              rcases hx0 with ⟨rfl, rfl⟩ | ⟨a0, vs0, hv0, hmx, hrv0, hlv0⟩
              · -- nil
                simp only [cellsAll, Option.some.injEq] at hcs
                subst hcs
                rcases hs with ⟨rfl, rfl, rfl⟩ | ⟨a, c, us, rfl, hr, h1, hl, hcell⟩
                · omega
                · have hrun := run_append_nil (P := P) w t ty e i z hu hi hzz a m c us (by rw [hl, hsz]) hcell (by omega) (by omega) (by rw [hby]; omega)
                  have hgrew : Grew w (w.drew.alloc (.cells (us.toArray ++ Builtin.zeroCells z.cells (grownCap w m 0 e - m)) e)) := Grew.of_drew (Grew.alloc _ _)
                  obtain ⟨g1, g2⟩ := new_mem h hgrew
                  refine ⟨_, _, _, hrun, g1, g2, rfl, rfl, ?_⟩
                  have := rel_new h hgrew hone hl hr hp h1 (hcap m hb2 w).1 (hcap m hb2 w).2 (fun j u hj => ?_) true
                  · simpa using this
                  have hj' : j < us.length := (List.getElem?_eq_some_iff.1 hj).1
                  rw [show (w.drew.alloc (.cells (us.toArray ++ Builtin.zeroCells z.cells (grownCap w m 0 e - m)) e)).cell? ⟨w.heap.size, j, none⟩ = _ from World.cell?_alloc_new (w := w.drew) _ _ _]
                  rw [Array.getElem?_append_left (by simpa using hj')]
                  simpa using hj
              have hx1 : rel s (.rsl true (sizeT P e) els) vx := by
                simp only [rel]
                exact .inr ⟨a0, els.length, vs0, hv0, Nat.le_refl _, hmx, hrv0, hlv0⟩
              have hsrc2 : sourceD s.H e (sizeT P e) (.rsl true (sizeT P e) els) = some (els.length, cs) := by simp [sourceD, hcs]
              have hs2 := source_sound h hpos rfl hsrc2 hx1
              rcases hs2 with ⟨rfl, _, _⟩ | ⟨b, c2, olds, hvb, hro, h1o, hlo, hcello⟩
              · cases hv0
              · have hc2 : c2 = els.length ∧ b = a0 := by rw [hv0] at hvb; cases hvb; exact ⟨rfl, rfl⟩
                obtain ⟨rfl, rfl⟩ := hc2
                subst hv0
                rcases hs with ⟨rfl, rfl, rfl⟩ | ⟨a, c, us, rfl, hr, h1, hl, hcell⟩
                · omega
                · have hrun := run_append_grow (P := P) w t ty e i z hu hi hzz b els.length els.length olds (by rw [hlo, hsz]) hcello a m c us (by rw [hl, hsz]) hcell (by omega) (by simp only [maxLen] at hb4; omega) (by rw [hby]; exact growslice_fits (by omega) (by simpa using hb3))
                  have hgrew : Grew w (w.drew.alloc (.cells (olds.toArray ++ us.toArray ++ Builtin.zeroCells z.cells (grownCap w (els.length + m) els.length e - (els.length + m))) e)) := Grew.of_drew (Grew.alloc _ _)
                  obtain ⟨g1, g2⟩ := new_mem h hgrew
                  refine ⟨_, _, _, hrun, g1, g2, rfl, rfl, rel_new h hgrew hone (us := olds ++ us) (by rw [List.length_append, hlo, hl, Nat.add_mul]) (relAll_append hro hr) (by rw [pureL_app8, hpc, hp]; rfl) (ones_append h1o h1) (grownCap_ge w (els.length + m) els.length e) (grownCap_le_maxLen w (els.length + m) els.length e hb4) (fun j u hj => ?_) true⟩
                  have hj' : j < (olds ++ us).length := (List.getElem?_eq_some_iff.1 hj).1
                  rw [show (w.drew.alloc (.cells (olds.toArray ++ us.toArray ++ Builtin.zeroCells z.cells (grownCap w (els.length + m) els.length e - (els.length + m))) e)).cell? ⟨w.heap.size, j, none⟩ = _ from World.cell?_alloc_new (w := w.drew) _ _ _]
                  rw [Array.getElem?_append_left (by simpa using hj')]
                  simpa using hj
            · cases hd
          · cases hd
        · cases hd
      · cases hd
    · cases hd
end Go.Proofs.Ytjibdljdkgedcaa.Abs
