/-
  What a callee leaves behind is forgotten: contracts of functions that change the caller's objects. No condition.
-/
import Derived.Test.YtjibdljdkgedcaaAbs19
set_option linter.unusedSimpArgs false
set_option linter.unusedVariables false
namespace Go.Proofs.Ytjibdljdkgedcaa.Abs
open Go.RowKit
variable {P : Program}

/-- All objects that a value names are among the first n. -/
def lowD (n : Nat) : D → Bool
  | .osl j _ => decide (j < n)
  | .ptr j _ => decide (j < n)
  | .eptr j _ _ => decide (j < n)
  | .mp j => decide (j < n)
  | .it j => decide (j < n)
  | .agg ds => lowL ds
  | .tup ds => lowL ds
  | .rsl _ _ els => lowL els
  | .fsl _ els => lowL els
  | .rptr d => lowD n d
  | .fn _ cap => lowL cap
  | _ => true
where lowL : List D → Bool
  | [] => true
  | d :: ds => lowD n d && lowL ds
def lowO (n : Nat) : HObj → Bool
  | .box _ cs => lowD.lowL n cs
  | .row _ _ cs => lowD.lowL n cs
  | .map es => lowD.lowL n (es.map (·.1)) && lowD.lowL n (es.map (·.2))
  | .raw _ => true
mutual
theorem low_pure (n : Nat) : ∀ d, pureD d = true → lowD n d = true
  | .agg ds, h => by simp only [pureD] at h; simp only [lowD]; exact lowL_pure n ds h
  | .tup ds, h => by simp only [pureD] at h; simp only [lowD]; exact lowL_pure n ds h
  | .rsl _ _ els, h => by simp only [pureD] at h; simp only [lowD]; exact lowL_pure n els h
  | .fsl _ els, h => by simp only [pureD] at h; simp only [lowD]; exact lowL_pure n els h
  | .rptr d, h => by simp only [pureD] at h; simp only [lowD]; exact low_pure n d h
  | .fn _ cap, h => by simp only [pureD] at h; simp only [lowD]; exact lowL_pure n cap h
  | .any, _ => rfl
  | .int _ _, _ => rfl
  | .bool _, _ => rfl
  | .str _, _ => rfl
  | .nil, _ => rfl
  | .nptr, _ => rfl
  | .nfun, _ => rfl
  | .nmp, _ => rfl
  | .e0, _ => rfl
  | .osl .., h => by cases h
  | .ptr .., h => by cases h
  | .eptr .., h => by cases h
  | .mp _, h => by cases h
  | .it _, h => by cases h
theorem lowL_pure (n : Nat) : ∀ ds, pureD.pureL ds = true → lowD.lowL n ds = true
  | [], _ => rfl
  | d :: ds, h => by
    simp only [pureD.pureL, Bool.and_eq_true] at h
    simp only [lowD.lowL, low_pure n d h.1, lowL_pure n ds h.2, Bool.and_self]
end
mutual
theorem rel_lowD {s : RS} : ∀ (d : D) (v : Value), rel s d v → lowD s.nx d = true
  | .agg ds, v, h => by simp only [rel] at h; obtain ⟨vs, _, h2, _⟩ := h; simp only [lowD]; exact rel_lowL ds vs h2
  | .tup ds, v, h => by simp only [rel] at h; obtain ⟨vs, _, h2⟩ := h; simp only [lowD]; exact rel_lowL ds vs h2
  | .rsl _ _ els, v, h => by
    simp only [rel] at h
    simp only [lowD]
    rcases h with ⟨_, h, _⟩ | ⟨_, _, vs, _, _, _, h4, _⟩
    · rw [h]; rfl
    · exact rel_lowL els vs h4
  | .fsl _ els, v, h => by
    simp only [rel] at h
    simp only [lowD]
    rcases h with ⟨h, _⟩ | ⟨_, vs, _, _, h4, _⟩
    · rw [h]; rfl
    · exact rel_lowL els vs h4
  | .rptr d, v, h => by simp only [rel] at h; obtain ⟨_, u, _, h2, _⟩ := h; simp only [lowD]; exact rel_lowD d u h2
  | .fn _ cap, v, h => by simp only [rel] at h; obtain ⟨vs, _, h2⟩ := h; simp only [lowD]; exact rel_lowL cap vs h2
  | .any, _, _ => rfl
  | .int _ _, _, _ => rfl
  | .bool _, _, _ => rfl
  | .str _, _, _ => rfl
  | .nil, _, _ => rfl
  | .nptr, _, _ => rfl
  | .nfun, _, _ => rfl
  | .nmp, _, _ => rfl
  | .e0, _, _ => rfl
  | .osl .., v, h => by simp only [rel] at h; simp only [lowD, decide_eq_true_iff]; exact h.1
  | .ptr .., v, h => by simp only [rel] at h; simp only [lowD, decide_eq_true_iff]; exact h.1
  | .eptr .., v, h => by simp only [rel] at h; simp only [lowD, decide_eq_true_iff]; exact h.1
  | .mp _, v, h => by simp only [rel] at h; simp only [lowD, decide_eq_true_iff]; exact h.1
  | .it _, v, h => by simp only [rel] at h; simp only [lowD, decide_eq_true_iff]; exact h.1
theorem rel_lowL {s : RS} : ∀ (ds : List D) (vs : List Value), relAll s ds vs → lowD.lowL s.nx ds = true
  | [], _, _ => rfl
  | d :: ds, vs, h => by
    simp only [relAll] at h
    obtain ⟨v, r, _, h1, h2⟩ := h
    simp only [lowD.lowL, rel_lowD d v h1, rel_lowL ds r h2, Bool.and_self]
end
theorem objOK_low {s : RS} {w : World} {v : Value} {o : HObj} (h : objOK P s w v o) : lowO s.nx o = true := by
  cases o with
  | box e cs => obtain ⟨_, vs, _, _, h, _⟩ := h; exact rel_lowL cs vs h
  | row e n cs => obtain ⟨vs, _, h, _⟩ := h; exact rel_lowL cs vs h
  | map es => obtain ⟨_, _, _, _, _, h1, h2⟩ := h; simp only [lowO, rel_lowL _ _ h1, rel_lowL _ _ h2, Bool.and_self]
  | raw o => rfl
mutual
theorem rel_cut {s s' : RS} {n : Nat} (hm : ∀ a v, s.m a = some v → s'.m a = some v) (hn : n ≤ s'.nx) (hH : ∀ id, id < n → s'.H id = s.H id ∧ s'.κ id = s.κ id) :
    ∀ (d : D) (v : Value), lowD n d = true → rel s d v → rel s' d v
  | .agg ds, v, hl, h => by
    simp only [lowD] at hl; simp only [rel] at h ⊢
    obtain ⟨vs, h1, h2, h3⟩ := h
    exact ⟨vs, h1, relAll_cut hm hn hH ds vs hl h2, h3⟩
  | .tup ds, v, hl, h => by
    simp only [lowD] at hl; simp only [rel] at h ⊢
    obtain ⟨vs, h1, h2⟩ := h
    exact ⟨vs, h1, relAll_cut hm hn hH ds vs hl h2⟩
  | .rsl nn sz els, v, hl, h => by
    simp only [lowD] at hl; simp only [rel] at h ⊢
    rcases h with h | ⟨a, cap, vs, h1, h2, h3, h4, h5⟩
    · exact .inl h
    · exact .inr ⟨a, cap, vs, h1, h2, h3, relAll_cut hm hn hH els vs hl h4, fun i u hu => ⟨(h5 i u hu).1, (h5 i u hu).2.later hm⟩⟩
  | .fsl sz els, v, hl, h => by
    simp only [lowD] at hl; simp only [rel] at h ⊢
    rcases h with h | ⟨a, vs, h1, h3, h4, h5⟩
    · exact .inl h
    exact .inr ⟨a, vs, h1, h3, relAll_cut hm hn hH els vs hl h4, fun i u hu => ⟨(h5 i u hu).1, (h5 i u hu).2.later hm⟩⟩
  | .rptr d, v, hl, h => by
    simp only [lowD] at hl; simp only [rel] at h ⊢
    obtain ⟨a, u, h1, h2, h3⟩ := h
    exact ⟨a, u, h1, rel_cut hm hn hH d u hl h2, h3.later hm⟩
  | .fn f cap, v, hl, h => by
    simp only [lowD] at hl; simp only [rel] at h ⊢
    obtain ⟨vs, h1, h2⟩ := h
    exact ⟨vs, h1, relAll_cut hm hn hH cap vs hl h2⟩
  | .any, _, _, _ => by simp [rel]
  | .int _ _, v, _, h => by simpa [rel] using h
  | .bool _, v, _, h => by simpa [rel] using h
  | .str _, v, _, h => by simpa [rel] using h
  | .nil, v, _, h => by simpa [rel] using h
  | .nptr, v, _, h => by simpa [rel] using h
  | .nfun, v, _, h => by simpa [rel] using h
  | .nmp, v, _, h => by simpa [rel] using h
  | .e0, v, _, h => by simpa [rel] using h
  | .osl j k, v, hl, h => by
    simp only [lowD, decide_eq_true_iff] at hl; simp only [rel] at h ⊢
    rw [(hH j hl).1, (hH j hl).2]; exact ⟨by omega, h.2⟩
  | .ptr j k, v, hl, h => by
    simp only [lowD, decide_eq_true_iff] at hl; simp only [rel] at h ⊢
    rw [(hH j hl).1, (hH j hl).2]; exact ⟨by omega, h.2⟩
  | .eptr j k o, v, hl, h => by
    simp only [lowD, decide_eq_true_iff] at hl; simp only [rel] at h ⊢
    rw [(hH j hl).1, (hH j hl).2]; exact ⟨by omega, h.2⟩
  | .mp j, v, hl, h => by
    simp only [lowD, decide_eq_true_iff] at hl; simp only [rel] at h ⊢
    rw [(hH j hl).1, (hH j hl).2]; exact ⟨by omega, h.2⟩
  | .it j, v, hl, h => by
    simp only [lowD, decide_eq_true_iff] at hl; simp only [rel] at h ⊢
    rw [(hH j hl).1, (hH j hl).2]; exact ⟨by omega, h.2⟩
theorem relAll_cut {s s' : RS} {n : Nat} (hm : ∀ a v, s.m a = some v → s'.m a = some v) (hn : n ≤ s'.nx) (hH : ∀ id, id < n → s'.H id = s.H id ∧ s'.κ id = s.κ id) :
    ∀ (ds : List D) (vs : List Value), lowD.lowL n ds = true → relAll s ds vs → relAll s' ds vs
  | [], vs, _, h => by simpa [relAll] using h
  | d :: ds, vs, hl, h => by
    simp only [lowD.lowL, Bool.and_eq_true] at hl
    simp only [relAll] at h ⊢
    obtain ⟨v, r, h1, h2, h3⟩ := h
    exact ⟨v, r, h1, rel_cut hm hn hH d v hl.1 h2, relAll_cut hm hn hH ds r hl.2 h3⟩
end
theorem objOK_cut {s s' : RS} {n : Nat} {w : World} {v : Value} {o : HObj} (hm : ∀ a v, s.m a = some v → s'.m a = some v) (hn : n ≤ s'.nx) (hH : ∀ id, id < n → s'.H id = s.H id ∧ s'.κ id = s.κ id)
    (hl : lowO n o = true) (h : objOK P s w v o) : objOK P s' w v o := by
  cases o with
  | box e cs =>
    obtain ⟨b, vs, h1, h2, h3, h4⟩ := h
    exact ⟨b, vs, h1, h2, relAll_cut hm hn hH _ _ hl h3, h4⟩
  | row e k cs =>
    obtain ⟨vs, h1, h2, h3⟩ := h
    exact ⟨vs, h1, relAll_cut hm hn hH _ _ hl h2, h3⟩
  | map es =>
    simp only [lowO, Bool.and_eq_true] at hl
    obtain ⟨r, ens, c, h1, h2, h3, h4⟩ := h
    exact ⟨r, ens, c, h1, h2, relAll_cut hm hn hH _ _ hl.1 h3, relAll_cut hm hn hH _ _ hl.2 h4⟩
  | raw o => exact h
def cutH (n : Nat) (H : HM) : HM := fun id => if id < n then H id else none
/-- What the callee made is forgotten. -/
theorem AC_drop {f : FuncId} {ds : List D} {H : HM} {nx : Nat} {K : D → HM → Nat → Prop} (h : AC P f ds H nx K)
    (hk : ∀ r H' nx', K r H' nx' → lowD nx r = true ∧ ∀ id o, id < nx → H' id = some o → H id = some o ∨ lowO nx o = true) :
    AC P f ds H nx fun r H2 nx2 => nx2 = nx ∧ ∃ H' nx', K r H' nx' ∧ H2 = cutH nx H' := by
  refine ⟨h.1, fun s w vs h1 h2 h3 h4 => (h.2 s w vs h1 h2 h3 h4).mono fun e w' ⟨v, r, s', he, hK, hstep, hRH, hr⟩ => ?_⟩
  subst h1; subst h2
  obtain ⟨hl, hlo⟩ := hk _ _ _ hK
  let s2 : RS := { s' with H := cutH s.nx s'.H, nx := s.nx }
  have hH : ∀ id, id < s.nx → s2.H id = s'.H id ∧ s2.κ id = s'.κ id := fun id hid => ⟨if_pos hid, rfl⟩
  have hcut : ∀ (d : D) (v : Value), lowD s.nx d = true → rel s' d v → rel s2 d v := rel_cut (s := s') (s' := s2) (fun _ _ h => h) (Nat.le_refl _) hH
  have hown : ∀ k, owned s2 k → owned s' k := fun k ⟨id, hid, h5, h6⟩ => by
    rw [(hH id hid).1] at h5
    exact ⟨id, Nat.lt_of_lt_of_le hid hstep.nx, h5, h6⟩
  refine ⟨v, r, s2, he, ⟨rfl, s'.H, s'.nx, hK, rfl⟩, ?_, ?_, hcut r v hl hr⟩
  · exact ⟨hstep.os, hstep.tape, hstep.output, hstep.size, Nat.le_refl _, hstep.mem, hstep.new, fun id hid => by rw [(hH id hid).1]; exact hstep.objs id hid, hstep.keep, fun k hk' => hstep.own k (hown k hk')⟩
  · refine ⟨fun a u hm => ⟨(hRH.mem a u hm).1, fun ho => (hRH.mem a u hm).2 (hown _ ho)⟩, fun id o ho => ?_, fun i j hi hj hij hb => ?_, fun g => ?_⟩
    · have hid : id < s.nx := by
        rcases Nat.lt_or_ge id s.nx with h9 | h9
        · exact h9
        · have : s2.H id = none := if_neg (by omega)
          rw [this] at ho; cases ho
      rw [(hH id hid).1] at ho
      refine ⟨hid, objOK_cut (s := s') (s' := s2) (n := s.nx) (fun _ _ h => h) (Nat.le_refl _) hH ?_ (hRH.obj id o ho).2⟩
      rcases hlo id o hid ho with h9 | h9
      · exact objOK_low (s := s) (h3.obj id o h9).2
      · exact h9
    · have lt : ∀ i, s2.H i ≠ none → i < s.nx ∧ s'.H i ≠ none := fun i hi => by
        rcases Nat.lt_or_ge i s.nx with h9 | h9
        · exact ⟨h9, by rw [← (hH i h9).1]; exact hi⟩
        · exact (hi (if_neg (by omega))).elim
      exact hRH.apart i j (lt i hi).2 (lt j hj).2 hij hb
    · exact hcut _ _ (low_pure _ _ (pure_globD g)) (hRH.glob g)

/-- What such a reading must be: of the objects below 'lo' alone, and these hold no other's. -/
structure Low {σ : Type} (lo : Nat) (I : σ → HM → Prop) : Prop where
  loc : ∀ s H H', (∀ id, id < lo → H' id = H id) → I s H → I s H'
  low : ∀ s H, I s H → ∀ id o, id < lo → H id = some o → lowO lo o = true
end Go.Proofs.Ytjibdljdkgedcaa.Abs
