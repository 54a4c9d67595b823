import Derived.Test.YtlfohdkfpdkhhaaGreatDoorWF
import Derived.SizedLaws
/-
 Lemmas of the claim. No condition but those that each names.
-/
set_option linter.unusedSimpArgs false
set_option linter.unusedVariables false
set_option maxHeartbeats 8000000
set_option linter.unusedSectionVars false
namespace Go.Proofs.YtlfohdkfpdkhhaaGreatDoor.Abs
open Go.RowKit
variable {P : Program}
def Sem (P : Program) (N : Nat) (c : Code) (Q : Exit -> St -> Prop) (st : St) : Prop :=
 ∀ s0 w0 s a w, Fr P N st s a w -> Step s0 w0 s w -> c.wp P (lift P N s0 w0 Q) a w
theorem Sem.walk {N : Nat} {own : List Nat} {c : Code} {Q : Exit -> St -> Prop} {st : St} (hm : P.follows .mixedOrders = true) (hok : z8m N c = true) (h : awp P own c Q st) : Sem P N c Q st :=
 fun _ _ s a w hf hs => z66 hm c Q st s a w hok h hf hs
theorem Sem.seq {N : Nat} {x y : Code} {Q : Exit -> St -> Prop} {st : St} (h : Sem P N x (ztn (fun st => Sem P N y Q st) Q) st) : Sem P N (.seq x y) Q st := by
 intro s0 w0 s a w hf hs
 refine wp_seq (wp_mono (h s0 w0 s a w hf hs) ?_)
 rintro e a' w' ⟨st', s', hq, hf', hs'⟩
 cases e with
 | normal => exact hq s0 w0 s' a' w' hf' hs'
 | exit id => exact ⟨st', s', hq, hf', hs'⟩
 | goto l => exact ⟨st', s', hq, hf', hs'⟩
 | ret => exact ⟨st', s', hq, hf', hs'⟩
 | panic ch => exact ⟨st', s', hq, hf', hs'⟩
 | outgrown => exact ⟨st', s', hq, hf', hs'⟩
theorem Sem.cond {N : Nat} {c : Operand} {x y : Code} {Q : Exit -> St -> Prop} {st : St} (t : Bool) (ht : st.ev c = .bool t) (h1 : t = true -> Sem P N x Q st) (h2 : t = false -> Sem P N y Q st) : Sem P N (.cond c x y) Q st := by
 intro s0 w0 s a w hf hs
 have hv := hf.ev c
 rw [ht] at hv
 simp only [rel] at hv
 exact wp_cond_split hv (fun e => h1 e s0 w0 s a w hf hs) (fun e => h2 e s0 w0 s a w hf hs)
theorem Sem.seal {N : Nat} {c : Code} {Q : Exit -> St -> Prop} {st : St} (st' : St) (hs : SealTo P st st') (h : Sem P N c Q st') : Sem P N c Q st := by
 intro s0 w0 s a w hf hs0
 obtain ⟨s', hf', hs'⟩ := hs N s a w hf
 exact h s0 w0 s' a w hf' (hs0.trans hs')
theorem zyr {f : FuncId} {fn : Func} {c : Code} (hf : P.funcs[f]? = some fn) (hb : fn.body = some c) (hname : (fn.name == "runtime.NumGoroutine") = false)
  {ds : List D} {H : HM} {nx : Nat} {K : D -> HM -> Nat -> Prop} (hds : ds.length <= fn.ntmps) (h : Sem P fn.ntmps c (retQ P fn.results.toList K) (st0 ds H nx)) : AC P f ds H nx K := by
 refine ⟨⟨fn, hf, hname, by rw [hb]; rfl⟩, fun s w vs hH hnx hRH hr => ?_⟩
 have hlen := z0e hr
 refine calls_of_wp hf hb ?_
 have hfr : Fr P fn.ntmps (st0 ds H nx) s { tmps := vs.toArray ++ Array.replicate (fn.ntmps - vs.toArray.size) undef, defers := [] } w := by
  refine ⟨hH, hnx, by simp; omega, rfl, fun i => ?_, hRH⟩
  simp only [st0]
  cases V : ds[i]? with
  | none => simp [rel]
  | some d =>
   obtain ⟨v, hv, hrel⟩ := z2w hr i d V
   have hi : i < vs.length := by
    rcases Nat.lt_or_ge i vs.length with h | h
    ·exact h
    ·rw [List.getElem?_eq_none h] at hv; cases hv
   simp only [Array.getD_eq_getD_getElem?, Option.getD_some]
   rw [Array.getElem?_append_left (by simpa using hi)]
   simp only [List.getElem?_toArray, hv, Option.getD_some]
   exact hrel
 refine wp_mono (h s w s _ w hfr (Step.refl s w)) ?_
 rintro e a' w' ⟨st', s', hq, hf', hs'⟩
 cases e with
 | normal =>
  obtain ⟨r, hr, J⟩ := hq
  obtain ⟨v, h1, h2⟩ := z6o hf' hr
  exact ⟨hf'.defers, v, h1, v, r, s', rfl, by rw [hf'.H, hf'.nx]; exact J, hs', hf'.heap, h2⟩
 | ret =>
  obtain ⟨r, hr, J⟩ := hq
  obtain ⟨v, h1, h2⟩ := z6o hf' hr
  exact ⟨hf'.defers, v, h1, v, r, s', rfl, by rw [hf'.H, hf'.nx]; exact J, hs', hf'.heap, h2⟩
 | exit id => exact hq.elim
 | goto l => exact hq.elim
 | panic ch => exact hq.elim
 | outgrown => exact hq.elim
section
variable {st : St} {dst : Option Nat} {n : FuncId} {cap args : List D} {g : List Oper -> (St -> Prop) -> St -> Prop} {rest : List Oper} {K : St -> Prop}
def DC (P : Program) (f : FuncId) (ds : List D) (i j : Nat) (a a' b b' : HObj) (r : D) : Prop := ∀ H nx, i < nx -> j < nx -> H i = some a -> H j = some b -> AC P f ds H nx fun r' H2 n2 => r' = r /\ H2 = z12 (z12 H i (some a')) j (some b') /\ n2 = nx
theorem zs7 {i j : Nat} {a a' b b' : HObj} {r : D} (h : DC P n (args ++ cap) i j a a' b b' r) (hi : st.H i = some a) (hj : st.H j = some b) (h1 : i < st.nx) (h2 : j < st.nx)
  (O : g rest K ((st.withH (z12 (z12 st.H i (some a')) j (some b')) st.nx).put dst r)) : zhy P (.fn n cap) args g rest K st dst :=
 z82 ((h st.H st.nx h1 h2 hi hj).mono fun r' H2 n2 ⟨h1, h2, h3⟩ => by subst h1; subst h2; subst h3; exact O)
theorem zfn {i j : Nat} {a b : HObj} {r : D} (h : ∀ H nx, i < nx -> j < nx -> H i = some a -> H j = some b -> RC P n (args ++ cap) H nx r) (hi : st.H i = some a) (hj : st.H j = some b) (h1 : i < st.nx) (h2 : j < st.nx)
  (O : g rest K (st.put dst r)) : zhy P (.fn n cap) args g rest K st dst :=
 z0w (h st.H st.nx h1 h2 hi hj) O
theorem callW_gc {i : Nat} {a : HObj} {objs : List HObj} {r : D} (h : ∀ H nx, i < nx -> H i = some a -> AC P n (args ++ cap) H nx fun r' H' nx' => r' = renD (fun j => nx + j) r /\ H' = zjr H nx objs /\ nx' = nx + objs.length) (hi : st.H i = some a) (h1 : i < st.nx)
  (O : g rest K ((st.withH (zjr st.H st.nx objs) (st.nx + objs.length)).put dst (renD (fun j => st.nx + j) r))) : zhy P (.fn n cap) args g rest K st dst :=
 z82 ((h st.H st.nx h1 hi).mono fun r' H2 n2 ⟨h1, h2, h3⟩ => by subst h1; subst h2; subst h3; exact O)
end
end Go.Proofs.YtlfohdkfpdkhhaaGreatDoor.Abs
namespace Go.Proofs.YtlfohdkfpdkhhaaGreatDoor.Abs
open Go.RowKit
variable {P : Program}
mutual
theorem zor : ∀ d : D, renD (fun j => j) d = d
 | .agg ds => by simp only [renD, zk9 ds]
 | .tup ds => by simp only [renD, zk9 ds]
 | .osl _ _ | .ptr _ _ | .mp _ | .any | .int _ _ | .bool _ | .str _ | .nil | .nptr | .nfun | .nmp | .e0 | .rsl _ _ _ | .rptr _ | .fsl _ _ | .fn _ _ | .eptr _ _ _ | .it _ => rfl
theorem zk9 : ∀ ds : List D, renD.renL (fun j => j) ds = ds
 | [] => rfl
 | d :: ds => by simp only [renD.renL, zor d, zk9 ds]
end
theorem zrd (g : Nat -> Nat) : ∀ ds : List D, renD.renL g ds = ds.map (renD g)
 | [] => rfl
 | d :: ds => by simp only [renD.renL, List.map_cons, zrd g ds]
noncomputable def zgv (s s3 : RS) (φ σ : Nat -> Nat) (n p : Nat) : RS :=
 {m := s3.m
  κ := fun i => @dite _ (∃ j, j < n /\ φ j = i) (Classical.propDecidable _) (fun h => s3.κ (σ h.choose)) (fun _ => s.κ i)
  H := fun i => @dite _ (∃ j, j < n /\ φ j = i) (Classical.propDecidable _) (fun h => s3.H (σ h.choose)) (fun _ => s.H i)
  nx := s.nx + p }
theorem zka {f : FuncId} {ds : List D} {objs0 objs1 objs2 : List HObj} {r : D} {m n p : Nat} (hm : objs0.length = m) (hl : objs1.length = m) (hp : objs2.length = p) (hn : n = m + p)
  (hds : okD.okL m ds = true) (hr : okD n r = true) (ho0 : ∀ o ∈ objs0, z2t o = true) (ho1 : ∀ o ∈ objs1 ++ objs2, z2t o = true)
  (h : AC P f ds (fun i => objs0[i]?) m fun d H' _ => ∃ σ : Nat -> Nat, (∀ j, j < m -> σ j = j) /\ (∀ i j, i < n -> j < n -> σ i = σ j -> i = j) /\ d = renD σ r /\ ∀ j, j < n -> H' (σ j) = (objs1 ++ objs2)[j]?)
  {τ : Nat -> Nat} (hτ : ∀ i j, i < m -> j < m -> τ i = τ j -> i = j) {H : HM} {nx : Nat} (hnx : ∀ j, j < m -> τ j < nx) (hH : ∀ j, j < m -> H (τ j) = objs0[j]?) :
  AC P f (ds.map (renD τ)) H nx fun r' H2 n2 => r' = renD (fun j => if j < m then τ j else nx + (j - m)) r /\ (∀ j, j < m -> H2 (τ j) = objs1[j]?) /\ (∀ j, j < p -> H2 (nx + j) = objs2[j]?) /\
   (∀ i, (∀ j, j < m -> τ j ≠ i) -> ¬ (nx <= i /\ i < nx + p) -> H2 i = H i) /\ n2 = nx + p := by
 refine ⟨h.1, fun s w vs e1 e2 hRH hrel => ?_⟩
 subst e1; subst e2
 let s2 : RS := { m := s.m, κ := fun i => s.κ (τ i), H := fun i => objs0[i]?, nx := m }
 have h2lt : ∀ i, s2.H i ≠ none -> i < m := fun i hi => by
  rcases Nat.lt_or_ge i m with h9 | h9
  ·exact h9
  ·exact (hi (List.getElem?_eq_none (by omega))).elim
 have h2H : ∀ i, i < m -> s2.H i = s.H (τ i) := fun i hi => (hH i hi).symm
 have hlive0 : ∀ j, j < m -> s.H (τ j) ≠ none := fun j hj => by rw [hH j hj, List.getElem?_eq_getElem (by omega)]; simp
 have hown2 : ∀ k, owned s2 k -> owned s k := by
  rintro k ⟨i, hi, hHi, hb⟩
  exact ⟨τ i, hnx i hi, hlive0 i hi, hb⟩
 have hRH2 : RH P s2 w := by
  refine ⟨fun a u hmm => ⟨(hRH.mem a u hmm).1, fun ho => (hRH.mem a u hmm).2 (hown2 _ ho)⟩, fun i o ho => ?_, fun i j hi hj hij hb => ?_, fun g => z1y (s := s) (s' := s2) (fun a v hm => hm) _ _ (z4t g) (hRH.glob g)⟩
  ·have hi := h2lt i (by rw [ho]; simp)
   have ho' : s.H (τ i) = some o := by rw [<- h2H i hi]; exact ho
   refine ⟨hi, objOK.pure (s := s) (s' := s2) (fun _ _ h => h) (ho0 o ?_) (hRH.obj _ o ho').2⟩
   exact List.mem_of_getElem? (by rw [<- hH i hi]; exact ho')
  ·have hi' := h2lt i hi
   have hj' := h2lt j hj
   exact hRH.apart (τ i) (τ j) (hlive0 i hi') (hlive0 j hj') (fun e => hij (hτ i j hi' hj' e)) hb
 have hr2 : relAll s2 ds vs := by
  have := zb0 (s := s) (s' := s2) (k := m) (σ := τ) (τ := fun j => j) (fun _ _ h => h) (fun j hj => hj) (fun j hj => ⟨h2H j hj, rfl⟩) ds vs hds (by rw [zrd]; exact hrel)
  rwa [zk9] at this
 refine (h.2 s2 w vs rfl rfl hRH2 hr2).mono fun e w' ⟨v, d, s3, he, ⟨σ, hσ0, hσ, V, hobj⟩, hstep, hRH3, hres⟩ => ?_
 subst V
 obtain ⟨φ, hφ⟩ : ∃ φ : Nat -> Nat, φ = fun j => if j < m then τ j else s.nx + (j - m) := ⟨_, rfl⟩
 have hφlo : ∀ j, j < m -> φ j = τ j := fun j hj => by rw [hφ]; exact if_pos hj
 have hφhi : ∀ j, ¬ j < m -> φ j = s.nx + (j - m) := fun j hj => by rw [hφ]; exact if_neg hj
 have hφinj : ∀ i j, i < n -> j < n -> φ i = φ j -> i = j := by
  intro i j hi hj e
  by_cases h1 : i < m
  ·by_cases h2 : j < m
   ·rw [hφlo i h1, hφlo j h2] at e; exact hτ i j h1 h2 e
   ·rw [hφlo i h1, hφhi j h2] at e; have := hnx i h1; omega
  ·by_cases h2 : j < m
   ·rw [hφhi i h1, hφlo j h2] at e; have := hnx j h2; omega
   ·rw [hφhi i h1, hφhi j h2] at e; omega
 let s' := zgv s s3 φ σ n p
 have hnew : ∀ j, j < n -> s'.H (φ j) = s3.H (σ j) /\ s'.κ (φ j) = s3.κ (σ j) := by
  intro j hj
  have hex : ∃ j', j' < n /\ φ j' = φ j := ⟨j, hj, rfl⟩
  have hch : hex.choose = j := hφinj _ _ hex.choose_spec.1 hj hex.choose_spec.2
  show (zgv s s3 φ σ n p).H (φ j) = _ /\ (zgv s s3 φ σ n p).κ (φ j) = _
  simp only [zgv]
  rw [dif_pos hex, dif_pos hex, hch]
  exact ⟨rfl, rfl⟩
 have hother : ∀ i, (∀ j, j < n -> φ j ≠ i) -> s'.H i = s.H i /\ s'.κ i = s.κ i := by
  intro i hi
  have hex : ¬ ∃ j', j' < n /\ φ j' = i := fun ⟨j, hj, e⟩ => hi j hj e
  show (zgv s s3 φ σ n p).H i = _ /\ (zgv s s3 φ σ n p).κ i = _
  simp only [zgv]
  rw [dif_neg hex, dif_neg hex]
  exact ⟨rfl, rfl⟩
 have hcase : ∀ i, (∃ j, j < n /\ φ j = i) \/ ∀ j, j < n -> φ j ≠ i := fun i => by
  rcases Classical.em (∃ j, j < n /\ φ j = i) with h1 | h1
  ·exact .inl h1
  ·exact .inr fun j hj e => h1 ⟨j, hj, e⟩
 have hlive3 : ∀ j, j < n -> s3.H (σ j) ≠ none := fun j hj => by rw [hobj j hj, List.getElem?_eq_getElem (by rw [List.length_append]; omega)]; simp
 -- an object of the caller's that the callee does not see
 have hfar : ∀ i, (∀ j, j < n -> φ j ≠ i) -> s.H i ≠ none -> ∀ b, blockOf (s.κ i) = some b -> b < w.heap.size /\ ¬ owned s2 b := by
  intro i hi hHi b hb
  refine ⟨hRH.owned_lt ⟨i, hRH.fresh hHi, hHi, hb⟩, ?_⟩
  rintro ⟨j, hj, _, hb2⟩
  have hj : j < m := hj
  exact hRH.apart i (τ j) hHi (hlive0 j hj) (fun e => hi j (by omega) (by rw [hφlo j hj, e])) (by rw [hb]; simp) (by rw [hb]; exact hb2.symm)
 have hown : ∀ k, owned s' k -> owned s3 k \/ ∃ i, (∀ j, j < n -> φ j ≠ i) /\ s.H i ≠ none /\ blockOf (s.κ i) = some k := by
  rintro k ⟨i, _, hHi, hb⟩
  rcases hcase i with ⟨j, hj, rfl⟩ | hi
  ·rw [(hnew j hj).2] at hb
   exact .inl ⟨σ j, hRH3.fresh (hlive3 j hj), hlive3 j hj, hb⟩
  ·rw [(hother i hi).1] at hHi; rw [(hother i hi).2] at hb
   exact .inr ⟨i, hi, hHi, hb⟩
 have hown' : ∀ k, owned s' k -> owned s k \/ w.heap.size <= k := fun k O => by
  rcases hown k O with h1 | ⟨i, _, h1, h2⟩
  ·rcases hstep.own k h1 with h3 | h3
   ·exact .inl (hown2 k h3)
   ·exact .inr h3
  ·exact .inl ⟨i, hRH.fresh h1, h1, h2⟩
 have hlater : Later s s' := by
  refine ⟨by show s.nx <= s.nx + p; omega, fun a u hu => hstep.mem a u hu, fun i hi => ?_⟩
  rcases hcase i with ⟨j, hj, rfl⟩ | h1
  ·have hjm : j < m := by
    rcases Nat.lt_or_ge j m with h9 | h9
    ·exact h9
    ·rw [hφhi j (by omega)] at hi; omega
   rw [(hnew j hj).1, (hnew j hj).2, hφlo j hjm, hσ0 j hjm]
   have := hstep.objs j hjm
   rw [h2H j hjm] at this
   exact this
  ·rw [(hother i h1).1, (hother i h1).2]; exact objLe.refl _ _
 refine ⟨v, renD φ r, s', he, ⟨by rw [hφ], fun j hj => ?_, fun j hj => ?_, fun i h1 h2 => ?_, rfl⟩, ?_, ?_, znz (s := s3) (s' := s') (k := n) (fun _ _ h => h) (fun j hj => ?_) hnew r v hr hres⟩
 ·rw [<- hφlo j hj, (hnew j (by omega)).1, hobj j (by omega), List.getElem?_append_left (by omega)]
 ·have := hφhi (m + j) (by omega)
  rw [show m + j - m = j by omega] at this
  rw [<- this, (hnew (m + j) (by omega)).1, hobj _ (by omega), List.getElem?_append_right (by omega)]
  congr 1; omega
 ·refine (hother i fun j hj e => ?_).1
  by_cases h3 : j < m
  ·exact h1 j h3 (by rw [<- hφlo j h3]; exact e)
  ·rw [hφhi j h3] at e; exact h2 ⟨by omega, by omega⟩
 ·refine ⟨hstep.os, hstep.tape, hstep.output, hstep.size, hlater.nx, hlater.mem, fun a u hu => ?_, hlater.objs, fun k O ho => hstep.keep k O (fun h1 => ho (hown2 k h1)), hown'⟩
  rcases hstep.new a u hu with h1 | h1 | h1
  ·exact .inl h1
  ·exact .inr (.inl h1)
  ·exact .inr (.inr (hown2 _ h1))
 ·refine ⟨fun a u hu => ⟨(hRH3.mem a u hu).1, fun ho => ?_⟩, fun i o ho => ?_, fun i j hi hj hij hb => ?_, fun g => rel.later hlater _ _ (hRH.glob g)⟩
  ·rcases hown _ ho with h1 | ⟨i, hi, h1, h2⟩
   ·exact (hRH3.mem a u hu).2 h1
   ·obtain ⟨h3, h4⟩ := hfar i hi h1 _ h2
    rcases hstep.new a u hu with h5 | h5 | h5
    ·exact (hRH.mem a u h5).2 ⟨i, hRH.fresh h1, h1, h2⟩
    ·omega
    ·exact h4 h5
  ·rcases hcase i with ⟨j, hj, rfl⟩ | hi
   ·rw [(hnew j hj).1] at ho
    rw [(hnew j hj).2]
    refine ⟨?_, objOK.pure (s := s3) (s' := s') (fun _ _ h => h) (ho1 o ?_) (hRH3.obj (σ j) o ho).2⟩
    ·show φ j < s.nx + p
     by_cases h1 : j < m
     ·rw [hφlo j h1]; have := hnx j h1; omega
     ·rw [hφhi j h1]; omega
    ·rw [hobj j hj] at ho; exact List.mem_of_getElem? ho
   ·obtain ⟨g1, g2⟩ := hother i hi
    rw [g1] at ho; rw [g2]
    obtain ⟨q1, q2⟩ := hRH.obj i o ho
    refine ⟨by show i < s.nx + p; omega, q2.mono hlater fun b hb => ?_⟩
    obtain ⟨h3, h4⟩ := hfar i hi (by rw [ho]; simp) b hb
    exact hstep.keep b h3 h4
  ·have key : ∀ i j, s'.H i ≠ none -> s'.H j ≠ none -> (∃ a, a < n /\ φ a = i) -> (∀ a, a < n -> φ a ≠ j) -> blockOf (s'.κ i) ≠ none -> blockOf (s'.κ i) ≠ blockOf (s'.κ j) := by
    rintro i j hi hj ⟨a, ha, rfl⟩ hjo hb e
    rw [(hnew a ha).2] at hb e
    rw [(hother j hjo).1] at hj
    rw [(hother j hjo).2] at e
    cases hbb : blockOf (s3.κ (σ a)) with
    | none => exact hb hbb
    | some b =>
     rw [hbb] at e
     obtain ⟨h3, h4⟩ := hfar j hjo hj b e.symm
     rcases hstep.own b ⟨σ a, hRH3.fresh (hlive3 a ha), hlive3 a ha, hbb⟩ with h5 | h5
     ·exact h4 h5
     ·omega
   rcases hcase i with hi1 | hi1
   ·rcases hcase j with hj1 | hj1
    ·obtain ⟨a, ha, rfl⟩ := hi1
     obtain ⟨c, hc, rfl⟩ := hj1
     rw [(hnew a ha).2] at hb ⊢
     rw [(hnew c hc).2]
     exact hRH3.apart (σ a) (σ c) (hlive3 a ha) (hlive3 c hc) (fun e => hij (by rw [hσ a c ha hc e])) hb
    ·exact key i j hi hj hi1 hj1 hb
   ·rcases hcase j with hj1 | hj1
    ·intro e
     exact key j i hj hi hj1 hi1 (by rw [<- e]; exact hb) e.symm
    ·rw [(hother i hi1).1] at hi; rw [(hother i hi1).2] at hb ⊢
     rw [(hother j hj1).1] at hj; rw [(hother j hj1).2]
     exact hRH.apart i j hi hj hij hb
 ·show φ j < s.nx + p
  by_cases h1 : j < m
  ·rw [hφlo j h1]; have := hnx j h1; omega
  ·rw [hφhi j h1]; omega
mutual
theorem zcy (g : Nat -> Nat) : ∀ d : D, pureD d = true -> renD g d = d
 | .agg ds, h => by simp only [renD, zgw g ds h]
 | .tup ds, h => by simp only [renD, zgw g ds h]
 | .osl _ _, h => by cases h
 | .ptr _ _, h => by cases h
 | .mp _, h => by cases h
 | .any, _ | .int _ _, _ | .bool _, _ | .str _, _ | .nil, _ | .nptr, _ | .nfun, _ | .nmp, _ | .e0, _ | .rsl _ _ _, _ | .rptr _, _ | .fsl _ _, _ | .fn _ _, _ | .eptr _ _ _, _ | .it _, _ => rfl
theorem zgw (g : Nat -> Nat) : ∀ ds : List D, pureD.pureL ds = true -> renD.renL g ds = ds
 | [], _ => rfl
 | d :: ds, h => by
  simp only [pureD.pureL, Bool.and_eq_true] at h
  simp only [renD.renL, zcy g d h.1, zgw g ds h.2]
end
mutual
theorem zkb {k : Nat} : ∀ d : D, pureD d = true -> okD k d = true
 | .agg ds, h => zkc ds h
 | .tup ds, h => zkc ds h
 | .osl _ _, h => by cases h
 | .ptr _ _, h => by cases h
 | .mp _, h => by cases h
 | .any, _ | .int _ _, _ | .bool _, _ | .str _, _ | .nil, _ | .nptr, _ | .nfun, _ | .nmp, _ | .e0, _ => rfl
 | .rsl _ _ _, h | .rptr _, h | .fsl _ _, h | .fn _ _, h | .eptr _ _ _, h | .it _, h => h
theorem zkc {k : Nat} : ∀ ds : List D, pureD.pureL ds = true -> okD.okL k ds = true
 | [], _ => rfl
 | d :: ds, h => by
  simp only [pureD.pureL, Bool.and_eq_true] at h
  simp only [okD.okL, zkb d h.1, zkc ds h.2, Bool.and_self]
end
theorem zre (a : HObj) : (fun i => [a][i]? : HM) = z12 noH 0 (some a) := by
 funext i
 match i with
 | 0 => rfl
 | i + 1 => simp [z12, noH]
theorem two_objs (a b : HObj) : (fun i => [a, b][i]? : HM) = z12 (z12 noH 0 (some a)) 1 (some b) := by
 funext i
 match i with
 | 0 => rfl
 | 1 => rfl
 | i + 2 => simp [z12, noH]
theorem zkd {n : Nat} {o : HObj} (h : z2t o = true) : lowO n o = true := by
 cases o with
 | box e cs => exact z35 n cs h
 | row e k cs => exact z35 n cs h
 | map es =>
  simp only [z2t, Bool.and_eq_true] at h
  simp only [lowO, z35 n _ h.1, z35 n _ h.2, Bool.and_self]
 | raw o => rfl
theorem zrf {f : FuncId} {ds ds' : List D} {k : Nat} {r : D} {a a' b b' : HObj} (hds : okD.okL 2 ds = true) (hr : pureD r = true) (ha : z2t a = true) (ha' : z2t a' = true) (hb : z2t b = true) (hb' : z2t b' = true)
  (h : AC P f ds (z12 (z12 noH 0 (some a)) 1 (some b)) 2 fun d H' _ => (∃ x, z2p P (hiH 2 H') k d = some x /\ Le x r) /\ H' 0 = some a' /\ H' 1 = some b')
  {i j : Nat} (hij : i ≠ j) (V : ds.map (renD fun q => if q = 0 then i else j) = ds') : DC P f ds' i j a a' b b' r := by
 intro H nx hi hj hHi hHj
 have h1 := zsd hr h (fun H' ⟨hu, hv⟩ id o hid ho => by
  match id, hid with
  | 0, _ => rw [hu] at ho; cases ho; exact .inr (zkd ha')
  | 1, _ => rw [hv] at ho; cases ho; exact .inr (zkd hb'))
 have h2 := zka (f := f) (ds := ds) (objs0 := [a, b]) (objs1 := [a', b']) (objs2 := []) (r := r) (m := 2) (n := 2) (p := 0) rfl rfl rfl rfl hds (zkb r hr) (fun o ho => by simp at ho; rcases ho with rfl | rfl <;> assumption) (fun o ho => by simp at ho; rcases ho with rfl | rfl <;> assumption)
  (by rw [two_objs]; exact h1.mono fun d H2 n2 ⟨e1, _, H', ⟨hu, hv⟩, e3⟩ => ⟨fun q => q, fun _ _ => rfl, fun _ _ _ _ e => e, by rw [zor]; exact e1, fun q hq => by
   subst e3
   match q, hq with
   | 0, _ => show zuv 2 H' 0 = _; exact hu
   | 1, _ => show zuv 2 H' 1 = _; exact hv⟩)
  (τ := fun q => if q = 0 then i else j) (fun q q' hq hq' e => by
   match q, q', hq, hq' with
   | 0, 0, _, _ => rfl
   | 0, 1, _, _ => exact (hij e).elim
   | 1, 0, _, _ => exact (hij e.symm).elim
   | 1, 1, _, _ => rfl) (H := H) (nx := nx) (fun q hq => by
   match q, hq with
   | 0, _ => exact hi
   | 1, _ => exact hj) (fun q hq => by
   match q, hq with
   | 0, _ => exact hHi
   | 1, _ => exact hHj)
 rw [V] at h2
 refine ⟨h2.1, fun s w vs q1 q2 q3 q4 => (h2.2 s w vs q1 q2 q3 q4).mono fun e w' ⟨v, r1, s1, he, ⟨g1, g2, _, g4, g5⟩, hs, hR, hrel⟩ => ⟨v, r1, s1, he, ⟨g1.trans (zcy _ r hr), ?_, g5⟩, hs, hR, hrel⟩⟩
 funext q
 have e0 : s1.H i = some a' := g2 0 (by omega)
 have e1 : s1.H j = some b' := g2 1 (by omega)
 unfold z12
 by_cases c1 : q = j
 ·subst c1; rw [if_pos rfl]; exact e1
 rw [if_neg c1]
 by_cases c2 : q = i
 ·subst c2; rw [if_pos rfl]; exact e0
 rw [if_neg c2]
 refine g4 q (fun x hx e => ?_) (by omega)
 match x, hx with
 | 0, _ => exact c2 e.symm
 | 1, _ => exact c1 e.symm
theorem zrg {f : FuncId} {ds ds' : List D} {k : Nat} {r : D} {a a' : HObj} (hds : okD.okL 1 ds = true) (hr : pureD r = true) (ha : z2t a = true) (ha' : z2t a' = true)
  (h : AC P f ds (z12 noH 0 (some a)) 1 fun d H' _ => (∃ x, z2p P (hiH 1 H') k d = some x /\ Le x r) /\ H' 0 = some a') (i : Nat) (V : ds.map (renD fun _ => i) = ds') : TC P f ds' i a a' r := by
 intro H nx hi hHi
 have h1 := zsd hr h (fun H' hu id o hid ho => by
  match id, hid with
  | 0, _ => rw [hu] at ho; cases ho; exact .inr (zkd ha'))
 have h2 := zka (f := f) (ds := ds) (objs0 := [a]) (objs1 := [a']) (objs2 := []) (r := r) (m := 1) (n := 1) (p := 0) rfl rfl rfl rfl hds (zkb r hr) (fun o ho => by simp at ho; rw [ho]; exact ha) (fun o ho => by simp at ho; rw [ho]; exact ha')
  (by rw [zre]; exact h1.mono fun d H2 n2 ⟨e1, _, H', hu, e3⟩ => ⟨fun q => q, fun _ _ => rfl, fun _ _ _ _ e => e, by rw [zor]; exact e1, fun q hq => by
   subst e3
   match q, hq with
   | 0, _ => show zuv 1 H' 0 = _; exact hu⟩)
  (τ := fun _ => i) (fun q q' hq hq' _ => by omega) (H := H) (nx := nx) (fun q hq => hi) (fun q hq => by
   match q, hq with
   | 0, _ => exact hHi)
 rw [V] at h2
 refine ⟨h2.1, fun s w vs q1 q2 q3 q4 => (h2.2 s w vs q1 q2 q3 q4).mono fun e w' ⟨v, r1, s1, he, ⟨g1, g2, _, g4, g5⟩, hs, hR, hrel⟩ => ⟨v, r1, s1, he, ⟨g1.trans (zcy _ r hr), ?_, g5⟩, hs, hR, hrel⟩⟩
 funext q
 have e0 : s1.H i = some a' := g2 0 (by omega)
 unfold z12
 by_cases c2 : q = i
 ·subst c2; rw [if_pos rfl]; exact e0
 rw [if_neg c2]
 exact g4 q (fun x hx e => c2 e.symm) (by omega)
theorem GC_frame {f : FuncId} {ds ds' : List D} {a b : HObj} {r : D} (hds : okD.okL 1 ds = true) (hr : okD 2 r = true) (ha : z2t a = true) (hb : z2t b = true)
  (h : AC P f ds (z12 noH 0 (some a)) 1 fun d H' _ => ∃ σ : Nat -> Nat, σ 0 = 0 /\ 1 <= σ 1 /\ d = renD σ r /\ H' 0 = some a /\ H' (σ 1) = some b)
  (i : Nat) (V : ds.map (renD fun _ => i) = ds') : ∀ H nx, i < nx -> H i = some a -> AC P f ds' H nx fun r' H' nx' => r' = renD (fun j => if j < 1 then i else nx + (j - 1)) r /\ H' = zjr H nx [b] /\ nx' = nx + 1 := by
 intro H nx hi hHi
 have h2 := zka (f := f) (ds := ds) (objs0 := [a]) (objs1 := [a]) (objs2 := [b]) (r := r) (m := 1) (n := 2) (p := 1) rfl rfl rfl rfl hds hr (fun o ho => by simp at ho; rw [ho]; exact ha) (fun o ho => by simp at ho; rcases ho with rfl | rfl <;> assumption)
  (by rw [zre]; exact h.mono fun d H2 n2 ⟨σ, e1, e2, e3, e4, e5⟩ => ⟨σ, fun q hq => by rw [show q = 0 by omega]; exact e1, fun q q' hq hq' e => by
   match q, q', hq, hq' with
   | 0, 0, _, _ => rfl
   | 0, 1, _, _ => rw [e1] at e; omega
   | 1, 0, _, _ => rw [e1] at e; omega
   | 1, 1, _, _ => rfl, e3, fun q hq => by
   match q, hq with
   | 0, _ => rw [e1]; exact e4
   | 1, _ => exact e5⟩)
  (τ := fun _ => i) (fun q q' hq hq' _ => by omega) (H := H) (nx := nx) (fun q hq => hi) (fun q hq => by
   match q, hq with
   | 0, _ => exact hHi)
 rw [V] at h2
 refine ⟨h2.1, fun s w vs q1 q2 q3 q4 => (h2.2 s w vs q1 q2 q3 q4).mono fun e w' ⟨v, r1, s1, he, ⟨g1, g2, g3, g4, g5⟩, hs, hR, hrel⟩ => ⟨v, r1, s1, he, ⟨g1, ?_, g5⟩, hs, hR, hrel⟩⟩
 funext q
 rw [zbu]
 have e0 : s1.H i = some a := g2 0 (by omega)
 have e1 : s1.H nx = some b := g3 0 (by omega)
 by_cases c1 : nx <= q /\ q < nx + [b].length
 ·rw [if_pos c1]
  have : q = nx := by simp at c1; omega
  subst this
  rw [Nat.sub_self]; exact e1
 ·rw [if_neg c1]
  by_cases c2 : q = i
  ·subst c2; rw [e0, hHi]
  ·exact g4 q (fun x hx e => c2 e.symm) (by simpa using c1)
end Go.Proofs.YtlfohdkfpdkhhaaGreatDoor.Abs
namespace Go.Proofs.YtlfohdkfpdkhhaaGreatDoor
open _root_.Go.Proofs.Tryz
section
open Abs Facts Tr
attribute [local irreducible] awp
set_option maxRecDepth 100000
theorem pc_Base (s : Ses) (hz : szB s.base = true) : PC prog 27 [zl6 s] (z0g s.base) := by
 have hlt : 0 < (trees s.base (s.dn ++ s.un)).length := by rw [z7e]; omega
 have hg : ∀ (l : List Deed) (h : 0 < (trees s.base l).length), (trees s.base l)[0] = s.base := fun l h => zn3 s.base [] l h
 have hg' : ∀ (l : List Deed) (h : Int.toNat 0 < (trees s.base l).length), (trees s.base l)[Int.toNat 0] = s.base := fun l h => hg l h
 have c1 := z45 s.base hz
 have hsp : ∀ t x : T, z17 (z0a t) 0 (z0a x) = z0a x := fun t x => z4e _ _ (by rw [z0c, z0c])
 refine z14 2 (by simp only [pureD.pureL, z59, Bool.and_self]) (z01 _) (z0z [] func27 rfl (by decide +kernel) rfl ?_)
 show awp _ _ (Code.seq _ _) _ _
 rw [show Tryz.f27.results.toList = [.cell 2 27] from rfl]
 repeat' (first | ((first | refine zqh fun K J => ?_ | refine zqs (c1) ?_); (simp (disch := omega) only [go_sem, Nat.reduceBEq, ↓reduceIte, reduceCtorEq, Nat.reduceAdd, Nat.reduceLeDiff, zl6, z13, z0g, hg'])) | refine nxt ?_ | refine zqu (by (simp (disch := omega) only [go_sem, Nat.reduceBEq, ↓reduceIte, Nat.reduceLeDiff]); rfl) rfl ?_ | (refine J _ ?_; clear J K))
 exact z08 (z01 _) (Le.refl _)
theorem tc_Log (s : Ses) (hl : s.dn.length <= 1000000) (hl2 : s.un.length <= 1000000) (ho : ∀ o ∈ s.dn, o.words.length <= 1000000 /\ szB o.unit = true) (k : Nat) : TC prog 20 [.ptr k 0] k (edO s) (edO s) (z20 s.dn) := by
 have hct : (s.dn ++ s.un).take s.dn.length = s.dn := List.take_left' rfl
 refine zrg (k := 3) (ds := [.ptr 0 0]) rfl (z6x _) (show z2t (edO s) = true from z2a s) (show z2t (edO s) = true from z2a s) (z0z [3] func20 rfl (by decide +kernel) rfl ?_) k rfl
 show awp _ _ (Code.seq _ _) _ _
 rw [show Tryz.f20.results.toList = [.tmp 2] from rfl]
 unfold edO
 repeat' (first | refine nxt ?_ | ((first | refine zqh fun K J => ?_ | refine zqe (by decide +kernel) fun K J => ?_); (simp (disch := omega) only [go_sem, Nat.reduceBEq, ↓reduceIte, reduceCtorEq, Nat.reduceAdd, z13, z20, List.length_append, List.length_map, <- List.map_take, hct])) | (refine J _ ?_; clear J K))
 (refine z3c (fun U st => ∃ (i : _), U = s.dn.length - i /\ st.t 0 = .ptr 0 0 /\ st.t 3 = .osl 1 i /\ st.t 14 = .rsl false 18 (s.dn.map z39) /\ st.t 15 = .int .i64 s.dn.length /\ st.t 16 = .int .i64 i /\ st.H 0 = some (.box 74 (z13 s)) /\ st.H 1 = some (.row 32 i ((s.dn.take i).flatMap z1l)) /\ (i <= s.dn.length) /\ (2 <= st.nx)) ?_ ?_); rotate_left; (rintro U st ⟨i, rfl, q0, q3, q14, q15, q16, qH0, qH1, qp0, qp1⟩); rotate_left
 ·(refine ⟨_, 0, rfl, ?_⟩); (simp (disch := omega) only [go_sem, Nat.reduceBEq, Nat.reduceLeDiff, and_self, Int.natCast_zero, List.flatMap_nil, z13, z20])
  all_goals first | exact ⟨rfl, rfl, by omega, by omega⟩ | rfl | omega
 by_cases hi : i < s.dn.length
 ·have hg := ho _ (List.getElem_mem hi)
  have c1 := za0 s.dn[i] hg.1 hg.2
  have htk := List.take_succ_eq_append_getElem hi
  repeat' (first | ((first | refine zqh fun K J => ?_ | refine zqr fun K J => ?_ | refine zqs (c1) ?_); (simp (disch := omega) only [go_sem, Nat.reduceBEq, ↓reduceIte, reduceCtorEq, Nat.reduceAdd, Nat.reduceMul, Nat.reduceLeDiff, q3, q14, q15, q16, qH1, z39, zjg])) | (refine zqd _ rfl ?_ ?_ <;> intro hc <;> (((try simp only [z07] at hc); (try omega)))) | refine nxt ?_ | (refine J _ ?_; clear J K))
  (refine Exists.intro _ (And.intro ?_ ⟨i + 1, rfl, ?_⟩)); rotate_left; (simp (disch := omega) only [go_sem, Nat.reduceBEq, Nat.reduceLeDiff, q0, q3, q14, q15, q16, qH0, qH1, true_and, Int.natCast_add, Int.natCast_one, List.flatMap_append, List.flatMap_cons, List.flatMap_nil, List.append_nil, htk]); rotate_left
  all_goals first | omega | exact ⟨by omega, by omega⟩
 ·have hie : i = s.dn.length := by omega
  subst hie
  rw [List.take_length] at qH1
  repeat' (first | ((refine zqh fun K J => ?_); (simp (disch := omega) only [go_sem, Nat.reduceBEq, ↓reduceIte, q3, q15, q16])) | (refine zqd _ rfl ?_ ?_ <;> intro hc <;> (((try simp only [z07] at hc); (try omega)))) | refine nxt ?_ | refine zqz ?_ | refine zqu (by (simp (disch := omega) only [go_sem, Nat.reduceBEq]); rfl) rfl ?_ | (refine J _ ?_; clear J K))
  refine ⟨⟨_, z1e 1 (by rw [zzd (by omega)]; (simp (disch := omega) only [go_sem, qH1])) zzq sizeT32 z48 z76, Le.refl _⟩, ?_⟩
  (simp (disch := omega) only [go_sem, qH0])
  all_goals first | exact qH0 | rfl
namespace Tr
theorem zts (b : T) (l : List Deed) {i : Nat} (hi : i < l.length) : draft b (l.take (i + 1)) = doT (draft b (l.take i)) l[i] (z3a (l.take i)) := by
 rw [List.take_succ_eq_append_getElem hi, zbe]
end Tr
theorem zmq (s : Ses) (hs : standsT s.base = true) (hok : OKrun s.base s.dn) (ho : ∀ o ∈ s.dn, OpSz o) (hn : z3a s.dn <= 100000000) (hl : s.dn.length <= 1000000) (k : Nat) (H : HM) (nx : Nat) (O : k < nx) (hH : H k = some (stO s)) :
  RC prog 47 [.ptr k 0] H nx (.tup [z0g s.draft, .int .i64 (z3a s.dn : Nat)]) := by
 have hnb := zag O
 have hH2 : H k = some (.box 61 (z31 s)) := hH
 refine RC_fin (k := 3) (by simp only [pureD, pureD.pureL, z01, Bool.and_self]) (z0z [5000030] func47 rfl (by decide +kernel) rfl ?_)
 show awp _ _ (Code.seq _ _) _ _
 rw [show Tryz.f47.results.toList = [.cell 2 27, .tmp 3] from rfl]
 have hsp : ∀ t x : T, z17 (z0a t) 0 (z0a x) = z0a x := fun t x => z4e _ _ (by rw [z0c, z0c])
 repeat' (first | refine nxt ?_ | ((refine zqh fun K J => ?_); (simp (disch := omega) only [go_sem, Nat.reduceBEq, ↓reduceIte, reduceCtorEq, Nat.reduceAdd, Nat.reduceLeDiff, hH2, hnb])) | (refine J _ ?_; clear J K))
 (refine z3c (fun U st => ∃ (i : _), U = s.dn.length - i /\ st.t 0 = .ptr k 0 /\ st.t 2 = .ptr nx 0 /\ st.t 4 = .ptr (nx + 1) 0 /\ st.t 5 = .int .i64 (z3a (s.dn.take i) : Nat) /\ st.t 6 = .int .i64 i /\ st.H (k) = some (.box 61 (z31 s)) /\ st.H (nx) = some (.box 27 z67) /\ st.H (nx + 1) = some (.box 27 (z0a (draft s.base (s.dn.take i)))) /\ (i <= s.dn.length) /\ (nx + 2 <= st.nx) /\ (∀ id, id < nx -> st.H id = H id)) ?_ ?_); rotate_left; (rintro U st ⟨i, rfl, q0, q2, q4, q5, q6, qHk, qHnx, qHnx1, qp0, qp1, qp2⟩); rotate_left
 ·(refine ⟨_, 0, rfl, ?_⟩); (simp (disch := omega) only [go_sem, Nat.reduceBEq, Nat.reduceLeDiff, true_and, Int.natCast_zero, z67, hH2, hnb])
  exact ⟨rfl, rfl, Nat.le_refl _, fun id a => by simp (disch := omega) only [z1p]⟩
 by_cases hi : i < s.dn.length
 ·have h1 := zo8 s.dn i
  have V := z6a hs (zp9 hok i)
  have c1 := pc_Do (draft s.base (s.dn.take i)) V s.dn[i] (ho _ (List.getElem_mem hi)) (z3a (s.dn.take i)) (by omega)
  rw [z7s (t := draft s.base (s.dn.take (i + 1))) (m := zjo s.dn[i]) (hok i hi) (zts _ _ hi).symm rfl] at c1
  repeat' (first | refine nxt ?_ | ((first | refine zqh fun K J => ?_ | refine zqr fun K J => ?_ | refine zqq (by decide +kernel) fun K J => ?_ | refine zqt (c1) ?_); (simp (disch := omega) only [go_sem, Nat.reduceBEq, ↓reduceIte, reduceCtorEq, Nat.reduceAdd, Nat.reduceLeDiff, q0, q4, q5, q6, qHk, qHnx1, z0g, z39, z20, hsp])) | (refine zqd _ rfl ?_ ?_ <;> intro hc <;> (((try simp only [z07] at hc); (try omega)))) | (refine J _ ?_; clear J K))
  (refine Exists.intro _ (And.intro ?_ ⟨i + 1, rfl, ?_⟩)); rotate_left; (simp (disch := omega) only [go_sem, Nat.reduceBEq, q0, q2, q4, q5, q6, qHk, qHnx, qHnx1, true_and, Int.natCast_add, Int.natCast_one, zcp s.dn hi, hnb]); rotate_left
  ·omega
  ·refine ⟨by omega, by omega, fun id hid => ?_⟩
   simp (disch := omega) only [z1p]
   exact qp2 id hid
 ·have hie : i = s.dn.length := by omega
  subst hie
  rw [List.take_length] at q5 qHnx1
  repeat' (first | refine nxt ?_ | ((refine zqh fun K J => ?_); (simp (disch := omega) only [go_sem, Nat.reduceBEq, ↓reduceIte, reduceCtorEq, Nat.reduceAdd, Nat.reduceLeDiff, q0, q2, q4, q5, q6, qHk, qHnx, qHnx1, z20, z67])) | (refine zqd _ rfl ?_ ?_ <;> intro hc <;> (((try simp only [z07] at hc); (try omega)))) | refine zqz ?_ | refine zqu (by (simp (disch := omega) only [go_sem, Nat.reduceBEq, ↓reduceIte, Nat.reduceLeDiff, q2, qHnx, z67]); rfl) rfl ?_ | (refine J _ ?_; clear J K))
  refine ⟨⟨_, z02 2 (by simp only [pureD, pureD.pureL, z04, Bool.and_self]), Le.refl _⟩, fun id hid => ?_⟩
  (simp (disch := omega) only [go_sem])
  simp (disch := omega) only [z1p]
  exact qp2 id hid
theorem le_apply (s : Ses) (l : List Deed) : LeL (((z31 s).set 8 (.rsl false 18 (l.map z39))).set 9 .nil) (z31 ⟨s.base, l, []⟩) := by
 rw [z3u, z3u]
 exact ⟨Le.refl _, Le.refl _, Le.refl _, Le.refl _, Le.refl _, Le.refl _, Le.refl _, Le.refl _, Le.refl _, Le.nil 18, trivial⟩
theorem zot (s : Ses) (n : Nat) : lowO n (stO s) = true := z35 n (z31 s) (zbs s)
theorem zxb (s : Ses) (hs : standsT s.base = true) (hok : OKrun s.base s.dn) (ho : ∀ o ∈ s.dn, OpSz o) (hn : z3a s.dn <= 100000000) (hl : s.dn.length <= 1000000) (o : Deed) (hoo : OpSz o) (k : Nat) :
  TC prog 50 [.ptr k 0, z39 o] k (stO s) (stO (z1r s o).2) (.int .i64 (z1r s o).1) := by
 have V := z6a hs hok
 have c2 := pc_Do s.draft V o hoo (z3a s.dn) hn
 refine zhm (k := 1) rfl (fun n _ => zot _ n) fun H nx O hH => (z0z [27, 3000031, 3000033, 2000035] func50 rfl (by decide +kernel) rfl ?_)
 show awp _ _ (Code.seq _ _) _ _
 rw [show Tryz.f50.results.toList = [.tmp 4] from rfl]
 have hnb := zag O
 have hH2 : H k = some (.box 61 (z31 s)) := hH
 have hsp : ∀ t x : T, z17 (z0a t) 0 (z0a x) = z0a x := fun t x => z4e _ _ (by rw [z0c, z0c])
 have c1 := fun H' nx' (h1 : k < nx') (h2 : H' k = some (.box 61 (z31 s))) => zmq s hs hok ho hn hl k H' nx' h1 h2
 by_cases he : doE s.draft o (z3a s.dn) = 0
 ·have ha : z1r s o = (0, ⟨s.base, s.dn ++ [o], []⟩) := by unfold z1r; rw [if_pos he]
  rw [ha]
  rw [z7s he rfl rfl] at c2
  have hgr : z1i true 18 (s.dn.length + 1) (s.dn.flatMap z1l ++ z1l o) = (s.dn ++ [o]).map z39 := by
   have := z62 (s.dn ++ [o])
   rw [List.length_append, List.length_singleton, List.flatMap_append, List.flatMap_singleton] at this
   exact this
  have hpu := z6y s.dn
  repeat' (first | refine nxt ?_ | ((first | refine z1j (N := 7) rfl fun K J => ?_ | refine z38 (N := 7) rfl (by decide +kernel) fun K J => ?_ | ((refine z0w (c1 _ _ ?_ ?_) ?_); (focus (((simp (disch := omega) only [go_sem]); done))); (focus ((simp (disch := omega) only [go_sem, hH2, hnb]); done))) | refine zqs (c2) ?_); (simp (disch := omega) only [go_sem, Nat.reduceBEq, Nat.reduceEqDiff, ↓reduceIte, reduceCtorEq, Nat.reduceAdd, Nat.reduceMul, Nat.reduceLeDiff, Nat.reduceLT, hH2, hnb, z39, z20, z2o, hgr, hpu, List.append_nil])) | (refine zqd _ rfl ?_ ?_ <;> intro hc <;> (first | (cases hc; done) | ((try simp only [] at hc); (try omega)))) | (refine J _ ?_; clear J K))
  refine z1f fun K J => ?_
  (simp (disch := omega) only [go_sem])
  refine J _ _ (z61 (b := k) (cs' := z31 ⟨s.base, s.dn ++ [o], []⟩) (by (simp (disch := omega) only [go_sem, hH2, hnb]); rfl) (le_apply _ _)) ?_
  clear J K
  repeat' (first | refine nxt ?_ | refine zqu (by (simp (disch := omega) only [go_sem, Nat.reduceBEq]); rfl) rfl ?_)
  refine ⟨⟨_, z02 0 rfl, Le.refl _⟩, ?_, fun id hid hne => ?_⟩
  ·(simp (disch := omega) only [go_sem, hnb])
   first | done | rfl
  ·(simp (disch := omega) only [go_sem])
   simp (disch := omega) only [z1p]
 ·have ha : z1r s o = (doE s.draft o (z3a s.dn), s) := by unfold z1r; rw [if_neg he]
  rw [ha]
  rw [z4y rfl he] at c2
  repeat' (first | refine nxt ?_ | ((first | refine zqh fun K J => ?_ | ((refine z0w (c1 _ _ ?_ ?_) ?_); (focus (((simp (disch := omega) only [go_sem]); done))); (focus ((simp (disch := omega) only [go_sem, hH2, hnb]); done))) | refine zqs (c2) ?_); (simp (disch := omega) only [go_sem, Nat.reduceBEq, ↓reduceIte, Nat.reduceAdd, Nat.reduceLeDiff, hnb, z39])) | (refine zqd _ rfl ?_ ?_ <;> intro hc <;> (((try simp only [z07] at hc); (try omega)))) | refine zqu (by (simp (disch := omega) only [go_sem, Nat.reduceBEq]); rfl) rfl ?_ | (refine J _ ?_; clear J K))
  refine ⟨⟨_, z02 0 rfl, Le.refl _⟩, ?_, fun id hid hne => ?_⟩
  ·(simp (disch := omega) only [go_sem, hH2, hnb])
   first | done | rfl
  ·(simp (disch := omega) only [go_sem])
   simp (disch := omega) only [z1p]
theorem zi7 (l : List Deed) (o : Deed) : z1i true 18 (l.length + 1) (l.flatMap z1l ++ z1l o) = (l ++ [o]).map z39 := by
 have := z62 (l ++ [o])
 rw [List.length_append, List.length_singleton, List.flatMap_append, List.flatMap_singleton] at this
 exact this
theorem tc_UndoR (s : Ses) (hl : s.dn.length <= 1000000) (hl2 : s.un.length <= 1000000) (k : Nat) :
  TC prog 30 [.ptr k 0] k (stO s) (stO (z5i s).2) (.bool (z5i s).1) := by
 refine zhm (k := 1) rfl (fun n _ => zot _ n) fun H nx O hH => (z0z [12, 3000016, 3000021, 3000024, 3000025, 2000027] func30 rfl (by decide +kernel) rfl ?_)
 show awp _ _ (Code.seq _ _) _ _
 rw [show Tryz.f30.results.toList = [.tmp 2] from rfl]
 have hnb := zag O
 obtain ⟨b, d, u⟩ := s
 have hH2 : H k = some (.box 61 (z31 ⟨b, d, u⟩)) := hH
 rcases List.eq_nil_or_concat d with rfl | ⟨l, o, V⟩
 ·have ha : z5i ⟨b, [], u⟩ = (false, ⟨b, [], u⟩) := rfl
  rw [ha]
  repeat' (first | refine nxt ?_ | ((refine zqh fun K J => ?_); (simp (disch := omega) only [go_sem, Nat.reduceBEq, ↓reduceIte, reduceCtorEq, Nat.reduceAdd, hH2, z20])) | (refine zqd _ rfl ?_ ?_ <;> intro hc <;> (first | (cases hc; done) | ((try simp only [decide_eq_true_eq] at hc); (try omega)))) | refine zqu (by (simp (disch := omega) only [go_sem, Nat.reduceBEq]); rfl) rfl ?_ | (refine J _ ?_; clear J K))
  refine ⟨⟨_, z02 0 rfl, Le.refl _⟩, ?_, fun id hid hne => ?_⟩
  ·(simp (disch := omega) only [go_sem, hH2])
   first | done | rfl
  ·(simp (disch := omega) only [go_sem])
 ·simp only [List.concat_eq_append] at V
  subst V
  have ha : z5i ⟨b, l ++ [o], u⟩ = (true, ⟨b, l, o :: u⟩) := by unfold z5i; simp
  rw [ha]
  have hlen : (l ++ [o]).length = l.length + 1 := by simp
  have hlen : l.length + 1 <= 1000000 := by rw [<- hlen]; exact hl
  have hl2 : u.length <= 1000000 := hl2
  have hgr := zi7 u.reverse o
  rw [List.length_reverse] at hgr
  have hpu := z6y u.reverse
  have hz : ((l.length + 1 : Nat) : Int) - 1 = ((l.length : Nat) : Int) := by omega
  have hge : ∀ (h : l.length < (l ++ [o]).length), (l ++ [o])[l.length] = o := fun h => by simp
  have htk : (l ++ [o]).take l.length = l := List.take_left' rfl
  have hs1 : ∀ x, ((z31 ⟨b, l ++ [o], u⟩).set 9 x)[8]? = some (.rsl false 18 (List.map z39 (l ++ [o]))) := by intro x; rw [z3u]; rfl
  have hfin : ((z31 ⟨b, l ++ [o], u⟩).set 9 (.rsl false 18 (List.map z39 (u.reverse ++ [o])))).set 8 (.rsl false 18 (List.map z39 l)) = z31 ⟨b, l, o :: u⟩ := by
   rw [z3u, z3u, List.reverse_cons]; rfl
  have hmin : min l.length (l.length + 1) = l.length := by omega
  repeat' (first | refine nxt ?_ | ((first | refine zqh fun K J => ?_ | refine zqe (by decide +kernel) fun K J => ?_); (simp (disch := omega) only [go_sem, Nat.reduceBEq, Nat.reduceEqDiff, ↓reduceIte, reduceCtorEq, Nat.reduceAdd, Nat.reduceMul, Nat.reduceLeDiff, Nat.reduceLT, hH2, hnb, z20, z2o, hgr, hpu, List.append_nil, List.length_append, List.length_singleton, List.length_reverse, hz, hge, htk, z39, Int.toNat_natCast, hs1, hfin])) | (refine zqd _ rfl ?_ ?_ <;> intro hc <;> (first | (cases hc; done) | ((try simp only [decide_eq_false_iff_not] at hc); (try omega)))) | refine zqu (by (simp (disch := omega) only [go_sem, Nat.reduceBEq]); rfl) rfl ?_ | (refine J _ ?_; clear J K))
  refine ⟨⟨_, z02 0 rfl, Le.refl _⟩, ?_, fun id hid hne => ?_⟩
  ·(simp (disch := omega) only [go_sem, hnb])
   first | done | rfl
  ·(simp (disch := omega) only [go_sem])
   simp (disch := omega) only [z1p]
theorem tc_RedoR (s : Ses) (hl : s.dn.length <= 1000000) (hl2 : s.un.length <= 1000000) (k : Nat) :
  TC prog 51 [.ptr k 0] k (stO s) (stO (z7f s).2) (.bool (z7f s).1) := by
 refine zhm (k := 1) rfl (fun n _ => zot _ n) fun H nx O hH => (z0z [12, 3000016, 3000021, 3000024, 3000025, 2000027] func51 rfl (by decide +kernel) rfl ?_)
 show awp _ _ (Code.seq _ _) _ _
 rw [show Tryz.f51.results.toList = [.tmp 2] from rfl]
 have hnb := zag O
 obtain ⟨b, d, u⟩ := s
 have hH2 : H k = some (.box 61 (z31 ⟨b, d, u⟩)) := hH
 cases u with
 | nil =>
  have ha : z7f ⟨b, d, []⟩ = (false, ⟨b, d, []⟩) := rfl
  rw [ha]
  repeat' (first | refine nxt ?_ | ((refine zqh fun K J => ?_); (simp (disch := omega) only [go_sem, Nat.reduceBEq, ↓reduceIte, reduceCtorEq, Nat.reduceAdd, hH2, z20, List.reverse_nil])) | (refine zqd _ rfl ?_ ?_ <;> intro hc <;> (first | (cases hc; done) | ((try simp only [decide_eq_true_eq] at hc); (try omega)))) | refine zqu (by (simp (disch := omega) only [go_sem, Nat.reduceBEq]); rfl) rfl ?_ | (refine J _ ?_; clear J K))
  refine ⟨⟨_, z02 0 rfl, Le.refl _⟩, ?_, fun id hid hne => ?_⟩
  ·(simp (disch := omega) only [go_sem, hH2])
   first | done | rfl
  ·(simp (disch := omega) only [go_sem])
 | cons o u =>
  obtain ⟨l, hl3⟩ : ∃ l, l = u.reverse := ⟨_, rfl⟩
  have hur : (o :: u).reverse = l ++ [o] := by rw [List.reverse_cons, hl3]
  have ha : z7f ⟨b, d, o :: u⟩ = (true, ⟨b, d ++ [o], u⟩) := rfl
  rw [ha]
  have hlen0 : (l ++ [o]).length = l.length + 1 := by simp
  have hlen : l.length + 1 <= 1000000 := by rw [hl3, List.length_reverse]; exact hl2
  have hl : d.length <= 1000000 := hl
  have hgr := zi7 d o
  have hpu := z6y d
  have hz : ((l.length + 1 : Nat) : Int) - 1 = ((l.length : Nat) : Int) := by omega
  have hge : ∀ (h : l.length < (l ++ [o]).length), (l ++ [o])[l.length] = o := fun h => by simp
  have htk : (l ++ [o]).take l.length = l := List.take_left' rfl
  have hs1 : ∀ x, ((z31 ⟨b, d, o :: u⟩).set 8 x)[9]? = some (.rsl false 18 (List.map z39 (l ++ [o]))) := by intro x; rw [z3u, hur]; rfl
  have hfin : ((z31 ⟨b, d, o :: u⟩).set 8 (.rsl false 18 (List.map z39 (d ++ [o])))).set 9 (.rsl false 18 (List.map z39 l)) = z31 ⟨b, d ++ [o], u⟩ := by
   rw [z3u, z3u, hl3]; rfl
  have hmin : min l.length (l.length + 1) = l.length := by omega
  repeat' (first | refine nxt ?_ | ((first | refine zqh fun K J => ?_ | refine zqe (by decide +kernel) fun K J => ?_); (simp (disch := omega) only [go_sem, Nat.reduceBEq, Nat.reduceEqDiff, ↓reduceIte, reduceCtorEq, Nat.reduceAdd, Nat.reduceMul, Nat.reduceLeDiff, Nat.reduceLT, hH2, hnb, z20, z2o, hgr, hpu, hur, List.append_nil, List.length_append, List.length_singleton, hz, hge, htk, z39, Int.toNat_natCast, hs1, hfin])) | (refine zqd _ rfl ?_ ?_ <;> intro hc <;> (first | (cases hc; done) | ((try simp only [decide_eq_false_iff_not] at hc); (try omega)))) | refine zqu (by (simp (disch := omega) only [go_sem, Nat.reduceBEq]); rfl) rfl ?_ | (refine J _ ?_; clear J K))
  refine ⟨⟨_, z02 0 rfl, Le.refl _⟩, ?_, fun id hid hne => ?_⟩
  ·(simp (disch := omega) only [go_sem, hnb])
   first | done | rfl
  ·(simp (disch := omega) only [go_sem])
   simp (disch := omega) only [z1p]
end
section
open Abs Facts
attribute [local irreducible] awp
theorem z000 {α : Type} (a b : List α) (k : Nat) (O : ¬ k < a.length) (hl : a.length = b.length) (h : a.take k = b.take k) : a = b := by
 rwa [List.take_of_length_le (by omega), List.take_of_length_le (by omega)] at h
theorem zva {α : Type} (a b : List α) (k : Nat) (O : k < a.length) (hl : a.length = b.length) (h : a.take k = b.take k) (he : a[k] = b[k]) : a.take (k + 1) = b.take (k + 1) := by
 rw [List.take_succ_eq_append_getElem O, List.take_succ_eq_append_getElem (by omega), h, he]
theorem z001 (a b : List ByteArray) (ha : a.length <= maxLen) (hb : b.length <= maxLen) : PC prog 101 [z2j a, z2j b] (.bool (decide (a = b))) := by
 unfold maxLen at ha hb
 refine z14 1 (by simp only [pureD.pureL, z2k, Bool.and_self]) rfl (z0z [] func101 rfl (by decide +kernel) rfl ?_)
 show awp _ _ (Code.seq _ _) _ _
 repeat' (first | refine nxt ?_ | ((refine zqh fun K J => ?_); (simp (disch := omega) only [go_sem, Nat.reduceBEq, ↓reduceIte, z2j])) | (refine zqd _ rfl ?_ ?_ <;> intro hc <;> (((try simp only [z07] at hc); (try omega)))) | refine zqu (by simp only [go_sem]; rfl) rfl ?_ | (refine J _ ?_; clear J K))
 ·refine z03 ?_
  have : ¬ a = b := fun e => hc (by rw [e])
  simp [this]
 (refine z3c (fun U st => ∃ (k : _), U = a.length - k /\ st.t 0 = z2j a /\ st.t 1 = z2j b /\ st.t 5 = .int .i64 k /\ (k <= a.length) /\ (a.take k = b.take k)) ?_ ?_); rotate_left; (rintro U st ⟨k, rfl, s0, s1, s5, sp0, sp1⟩); rotate_left
 ·(refine ⟨_, 0, rfl, ?_⟩); (simp (disch := omega) only [go_sem, Nat.reduceBEq, and_self, Int.natCast_zero])
  try simp
 repeat' (first | refine nxt ?_ | ((first | refine zqh fun K J => ?_ | refine zqe (by decide +kernel) fun K J => ?_ | refine zqr fun K J => ?_); (simp (disch := omega) only [go_sem, Nat.reduceBEq, ↓reduceIte, reduceCtorEq, Nat.reduceAdd, s0, s1, s5, z2j])) | ((first | refine zqd _ rfl (fun hc => ?_) (fun hc => ?_) | refine zqm _ rfl (fun hc => ?_) (fun hc => ?_)) <;> (((try simp only [z07] at hc); (try omega)))) | refine zqz ?_ | refine zqu (by simp only [go_sem]; rfl) rfl ?_ | (refine J _ ?_; clear J K))
 ·refine z03 ?_
  have : ¬ a = b := fun e => by subst e; exact hc rfl
  simp [this]
 ·(refine Exists.intro _ (And.intro ?_ ⟨k + 1, rfl, ?_⟩)); rotate_left; (simp (disch := omega) only [go_sem, Nat.reduceBEq, s0, s1, s5, true_and, Int.natCast_add, Int.natCast_one]); rotate_left
  ·omega
  ·exact ⟨by omega, zva a b k (by omega) (by omega) sp1 (by assumption)⟩
 ·refine z03 ?_
  have := z000 a b k (by omega) (by omega) sp1
  simp [this]
end
section
open Abs Facts Tr
attribute [local irreducible] awp
set_option maxRecDepth 100000
theorem pc_Added (t : T) (hz : szB t = true) (hc : cntT t <= 1000000) : PC prog 49 [z0g t] (z15 ((z0i t).filter zef)) := by
 have c0 := zr6 t hz (by omega)
 have hil := z2c t
 refine z14 2 (by simp only [pureD.pureL, z01, Bool.and_self]) (z47 _) (z0z [6] func49 rfl (by decide +kernel) rfl ?_)
 show awp _ _ (Code.seq _ _) _ _
 repeat' (first | refine nxt ?_ | ((first | refine zqh fun K J => ?_ | refine zqs (c0) ?_); (simp (disch := omega) only [go_sem, Nat.reduceBEq, ↓reduceIte, reduceCtorEq, Nat.reduceAdd, Nat.reduceMul, Nat.reduceLeDiff, z0g, z15])) | (refine J _ ?_; clear J K))
 (refine z3c (fun U st => ∃ (i : _), U = (z0i t).length - i /\ st.t 1 = .ptr 0 0 /\ st.t 3 = .osl 1 (((z0i t).take i).filter zef).length /\ st.t 4 = z15 (z0i t) /\ st.t 5 = .int .i64 i /\ st.H 0 = some (.box 27 (z0a t)) /\ st.H 1 = some (.row 23 (((z0i t).take i).filter zef).length ((((z0i t).take i).filter zef).flatMap z0b)) /\ (i <= (z0i t).length) /\ (2 <= st.nx)) ?_ ?_); rotate_left; (rintro U st ⟨i, rfl, q1, q3, q4, q5, qH0, qH1, qp0, qp1⟩); rotate_left
 ·(refine ⟨_, 0, rfl, ?_⟩); (simp (disch := omega) only [go_sem, Nat.reduceBEq, Nat.reduceLeDiff, and_self, Int.natCast_zero, List.flatMap_nil, z15, List.take_zero, List.filter_nil, List.length_nil])
 have hfl : (((z0i t).take i).filter zef).length <= i := by
  have := List.length_filter_le zef ((z0i t).take i)
  rw [List.length_take] at this; omega
 by_cases hi : i < (z0i t).length
 ·have c2 := zwi (z0i t)[i]
  have htk := List.take_succ_eq_append_getElem hi
  by_cases hw : zef (z0i t)[i] = true
  ·rw [hw] at c2
   repeat' (first | refine nxt ?_ | ((first | refine zqh fun K J => ?_ | refine zqr fun K J => ?_ | refine zqs (c2) ?_); (simp (disch := omega) only [go_sem, Nat.reduceBEq, ↓reduceIte, reduceCtorEq, Nat.reduceAdd, Nat.reduceMul, Nat.reduceLeDiff, q3, q4, q5, qH1, z15, z1a, z0b])) | ((first | refine zqd _ rfl (fun hc => ?_) (fun hc => ?_) | refine zqm _ rfl (fun hc => ?_) (fun hc => ?_)) <;> (first | (cases hc; done) | ((try simp only [z07] at hc); (try omega)))) | (refine J _ ?_; clear J K))
   (refine Exists.intro _ (And.intro ?_ ⟨i + 1, rfl, ?_⟩)); rotate_left; (simp (disch := omega) only [go_sem, Nat.reduceBEq, ↓reduceIte, q1, q3, q4, q5, qH0, qH1, true_and, Int.natCast_add, Int.natCast_one, List.flatMap_append, List.flatMap_cons, List.flatMap_nil, List.append_nil, htk, List.filter_append, List.filter_cons, hw, List.filter_nil, List.length_append, List.length_singleton]); rotate_left
   all_goals (repeat' (first | omega | rfl | refine And.intro ?_ ?_))
  ·rw [Bool.not_eq_true] at hw
   rw [hw] at c2
   repeat' (first | refine nxt ?_ | ((first | refine zqh fun K J => ?_ | refine zqr fun K J => ?_ | refine zqs (c2) ?_); (simp (disch := omega) only [go_sem, Nat.reduceBEq, ↓reduceIte, reduceCtorEq, Nat.reduceAdd, q4, q5, z15, z1a, z0b])) | ((first | refine zqd _ rfl (fun hc => ?_) (fun hc => ?_) | refine zqm _ rfl (fun hc => ?_) (fun hc => ?_)) <;> (first | (cases hc; done) | ((try simp only [z07] at hc); (try omega)))) | (refine J _ ?_; clear J K))
   (refine Exists.intro _ (And.intro ?_ ⟨i + 1, rfl, ?_⟩)); rotate_left; (simp (disch := omega) only [go_sem, Nat.reduceBEq, ↓reduceIte, q1, q3, q4, q5, qH0, qH1, true_and, Int.natCast_add, Int.natCast_one, List.append_nil, htk, List.filter_append, List.filter_cons, hw, List.filter_nil, List.append_nil, Bool.false_eq_true]); rotate_left
   all_goals (repeat' (omega))
 ·have hie : i = (z0i t).length := by omega
  subst hie
  rw [List.take_length] at q3 qH1
  repeat' (first | refine nxt ?_ | ((refine zqh fun K J => ?_); (simp (disch := omega) only [go_sem, Nat.reduceBEq, ↓reduceIte, q3, q4, q5, z15])) | (refine zqd _ rfl ?_ ?_ <;> intro hc <;> (((try simp only [z07] at hc); (try omega)))) | refine zqz ?_ | refine zqu (by simp only [go_sem]; rfl) rfl ?_ | (refine J _ ?_; clear J K))
  refine z3i ?_
  exact z1e 0 qH1 z1o z88 (fun _ => rfl) (fun _ => rfl)
theorem pc_Ids (a b : List Idv) (ha : a.length <= 1000000) (hb : b.length <= 1000000) : PC prog 28 [z15 a, z15 b] (.bool (decide (a = b))) := by
 refine z14 1 (by simp only [pureD.pureL, z47, Bool.and_self]) rfl (z0z [] func28 rfl (by decide +kernel) rfl ?_)
 show awp _ _ (Code.seq _ _) _ _
 by_cases hl : a.length = b.length
 ·repeat' (first | refine nxt ?_ | ((refine zqh fun K J => ?_); (simp (disch := omega) only [go_sem, Nat.reduceBEq, ↓reduceIte, z15, hl])) | (refine zqd _ rfl ?_ ?_ <;> intro hc <;> (first | (cases hc; done) | ((try simp only [] at hc); (try omega)))) | (refine J _ ?_; clear J K))
  (refine z3c (fun U st => ∃ (i : _), U = a.length - i /\ st.t 0 = z15 a /\ st.t 1 = z15 b /\ st.t 5 = .int .i64 i /\ (i <= a.length) /\ (∀ j, (h1 : j < i) -> (h2 : j < a.length) -> (h3 : j < b.length) -> a[j] = b[j])) ?_ ?_); rotate_left; (rintro U st ⟨i, rfl, q0, q1, q5, qp0, qp1⟩); rotate_left
  ·(refine ⟨_, 0, rfl, ?_⟩); (simp (disch := omega) only [go_sem, Nat.reduceBEq, true_and, Int.natCast_zero, z15])
   intro j h1; omega
  by_cases hi : i < a.length
  ·have hib : i < b.length := by omega
   by_cases he : a[i] = b[i]
   ·repeat' (first | refine nxt ?_ | ((first | refine zqh fun K J => ?_ | refine zqe (by decide +kernel) fun K J => ?_ | refine zqr fun K J => ?_); (simp (disch := omega) only [go_sem, Nat.reduceBEq, ↓reduceIte, reduceCtorEq, Nat.reduceAdd, q0, q1, q5, z15, hl, he])) | ((first | refine zqd _ rfl (fun hc => ?_) (fun hc => ?_) | refine zqm _ rfl (fun hc => ?_) (fun hc => ?_)) <;> (first | (cases hc; done) | ((try simp only [z07] at hc); (try omega)))) | (refine J _ ?_; clear J K))
    (refine Exists.intro _ (And.intro ?_ ⟨i + 1, rfl, ?_⟩)); rotate_left; (simp (disch := omega) only [go_sem, Nat.reduceBEq, q0, q1, q5, true_and, Int.natCast_add, Int.natCast_one]); rotate_left
    ·omega
    ·refine ⟨by omega, fun j h1 h2 h3 => ?_⟩
     by_cases e : j = i
     ·subst e; exact he
     ·exact qp1 j (by omega) h2 h3
   ·repeat' (first | refine nxt ?_ | ((first | refine zqh fun K J => ?_ | refine zqe (by decide +kernel) fun K J => ?_); (simp (disch := omega) only [go_sem, Nat.reduceBEq, ↓reduceIte, reduceCtorEq, Nat.reduceAdd, q0, q1, q5, z15, hl, he])) | ((first | refine zqd _ rfl (fun hc => ?_) (fun hc => ?_) | refine zqm _ rfl (fun hc => ?_) (fun hc => ?_)) <;> (first | (cases hc; done) | ((try simp only [z07] at hc); (try omega)))) | refine zqu (by simp only [go_sem]; rfl) rfl ?_ | (refine J _ ?_; clear J K))
    exact z03 (by rw [decide_eq_false (fun h : a = b => he (by subst h; rfl))])
  ·repeat' (first | refine nxt ?_ | ((refine zqh fun K J => ?_); (simp (disch := omega) only [go_sem, Nat.reduceBEq, ↓reduceIte, q0, q5, z15, hl])) | (refine zqd _ rfl ?_ ?_ <;> intro hc <;> (((try simp only [z07] at hc); (try omega)))) | refine zqz ?_ | refine zqu (by simp only [go_sem]; rfl) rfl ?_ | (refine J _ ?_; clear J K))
   exact z03 (by rw [decide_eq_true (List.ext_getElem hl fun j h1 h2 => qp1 j (by omega) h1 h2)])
 ·skip
  repeat' (first | refine nxt ?_ | ((refine zqh fun K J => ?_); (simp (disch := omega) only [go_sem, Nat.reduceBEq, ↓reduceIte, z15])) | (refine zqd _ rfl ?_ ?_ <;> intro hc <;> (((try simp only [z07] at hc); (try omega)))) | refine zqu (by simp only [go_sem]; rfl) rfl ?_ | (refine J _ ?_; clear J K))
  exact z03 (by rw [decide_eq_false (fun h : a = b => hl (by rw [h]))])
theorem pc_opS (o : Deed) (hw : o.words.length <= 1000000) (hu : szB o.unit = true) : PC prog 75 [z39 o, z39 o] (.bool true) := by
 have c1 := z001 o.words o.words (by unfold maxLen; omega) (by unfold maxLen; omega)
 have c2 := zfv o.unit hu o.unit hu
 rw [decide_eq_true rfl] at c1 c2
 refine z14 1 (by simp only [pureD.pureL, z3f, Bool.and_self]) rfl (z0z [] func75 rfl (by decide +kernel) rfl ?_)
 show awp _ _ (Code.seq _ _) _ _
 repeat' (first | ((first | refine zqh fun K J => ?_ | refine zqs (c1) ?_ | refine zqs (c2) ?_); (simp (disch := omega) only [go_sem, Nat.reduceBEq, ↓reduceIte, reduceCtorEq, Nat.reduceAdd, Nat.reduceLeDiff, z39, z2j, z0b])) | refine nxt ?_ | refine zqu (by simp only [go_sem]; rfl) rfl ?_ | (refine J _ ?_; clear J K))
 all_goals first | exact z03 rfl | skip
theorem pc_SameO (l : List Deed) (hl : l.length <= 1000000) (ho : ∀ o ∈ l, o.words.length <= 1000000 /\ szB o.unit = true) : PC prog 48 [z20 l, z20 l] (.bool true) := by
 refine z14 1 (by simp only [pureD.pureL, z6x, Bool.and_self]) rfl (z0z [] func48 rfl (by decide +kernel) rfl ?_)
 show awp _ _ (Code.seq _ _) _ _
 repeat' (first | refine nxt ?_ | ((refine zqh fun K J => ?_); (simp (disch := omega) only [go_sem, Nat.reduceBEq, ↓reduceIte, z20])) | (refine zqd _ rfl ?_ ?_ <;> intro hc <;> (first | (cases hc; done) | ((try simp only [] at hc); (try omega)))) | (refine J _ ?_; clear J K))
 (refine z3c (fun U st => ∃ (i : _), U = l.length - i /\ st.t 0 = z20 l /\ st.t 1 = z20 l /\ st.t 5 = .int .i64 i /\ (i <= l.length)) ?_ ?_); rotate_left; (rintro U st ⟨i, rfl, q0, q1, q5, qp0⟩); rotate_left
 ·(refine ⟨_, 0, rfl, ?_⟩); (simp (disch := omega) only [go_sem, Nat.reduceBEq, and_self, Int.natCast_zero, z20])
 by_cases hi : i < l.length
 ·have hg := ho _ (List.getElem_mem hi)
  have c1 := pc_opS l[i] hg.1 hg.2
  repeat' (first | refine nxt ?_ | ((first | refine zqh fun K J => ?_ | refine zqe (by decide +kernel) fun K J => ?_ | refine zqr fun K J => ?_ | refine zqt (c1) ?_); (simp (disch := omega) only [go_sem, Nat.reduceBEq, ↓reduceIte, reduceCtorEq, Nat.reduceAdd, q0, q1, q5, z20, z39])) | ((first | refine zqd _ rfl (fun hc => ?_) (fun hc => ?_) | refine zqm _ rfl (fun hc => ?_) (fun hc => ?_)) <;> (first | (cases hc; done) | ((try simp only [z07] at hc); (try omega)))) | (refine J _ ?_; clear J K))
  (refine Exists.intro _ (And.intro ?_ ⟨i + 1, rfl, ?_⟩)); rotate_left; (simp (disch := omega) only [go_sem, Nat.reduceBEq, q0, q1, q5, true_and, Int.natCast_add, Int.natCast_one, z20]); rotate_left
  all_goals omega
 ·repeat' (first | refine nxt ?_ | ((refine zqh fun K J => ?_); (simp (disch := omega) only [go_sem, Nat.reduceBEq, ↓reduceIte, q0, q5, z20])) | (refine zqd _ rfl ?_ ?_ <;> intro hc <;> (((try simp only [z07] at hc); (try omega)))) | refine zqz ?_ | refine zqu (by simp only [go_sem]; rfl) rfl ?_ | (refine J _ ?_; clear J K))
  exact z03 rfl
end
section
open Abs Facts Tr
structure OpOK (o : Deed) : Prop where
 few : fewO o = true
 at1 : -9223372036854775808 <= o.at_
 at2 : o.at_ <= 9223372036854775807
theorem OpOK.cnt {o : Deed} (h : OpOK o) : szB o.unit = true /\ cntT o.unit <= 12 /\ depT o.unit <= 20 := by
 have h1 := h.few
 unfold fewO at h1
 simp only [Bool.and_eq_true] at h1
 obtain ⟨a, b, c⟩ := few_sz (t := o.unit) (most := 12) (by decide) (by decide) h1.1.2
 exact ⟨a, by omega, c⟩
theorem OpOK.sz {o : Deed} (h : OpOK o) : OpSz o := by
 obtain ⟨a, b, c⟩ := h.cnt
 have h1 := h.few
 unfold fewO at h1
 simp only [Bool.and_eq_true, decide_eq_true_eq, List.all_eq_true] at h1
 exact ⟨by omega, fun w hw => by have := h1.2 w hw; omega, by omega, a, by omega, by omega, h.at1, h.at2⟩
structure RdO (o : Deed) : Prop where
 ws : o.words.length <= maxLen
 lb : o.label.size <= maxLen
 wt : ∀ w ∈ o.words, w.size <= maxLen
 un : fitB o.unit = true
 at1 : -9223372036854775808 <= o.at_
 at2 : o.at_ <= 9223372036854775807
theorem RdO.use {o : Deed} (h : RdO o) : o.words.length <= maxLen /\ o.label.size <= maxLen /\ (∀ w ∈ o.words, w.size <= maxLen) /\ fitB o.unit = true := ⟨h.ws, h.lb, h.wt, h.un⟩
theorem zpx {u : T} {l : List Ky} (hl : ∀ q ∈ l, RdO q.o) (h : (decide (l.length <= 16) && zuw u 40 && (l.map (·.o)).all fewO) = true) : szB u = true /\ cntT u <= 40 /\ depT u <= 20 /\ l.length <= 16 /\ ∀ p ∈ l, OpOK p.o := by
 simp only [Bool.and_eq_true, decide_eq_true_eq, List.all_eq_true] at h
 obtain ⟨⟨h1, h2⟩, h3⟩ := h
 obtain ⟨a, b, c⟩ := few_sz (t := u) (most := 40) (by decide) (by decide) h2
 exact ⟨a, by omega, c, h1, fun p hp => ⟨h3 _ (List.mem_map.2 ⟨p, hp, rfl⟩), (hl p hp).at1, (hl p hp).at2⟩⟩
structure Live (n : Nat) (s : Ses) : Prop where
 ok : SesOK s
 ops : ∀ o ∈ s.dn ++ s.un, OpOK o
 len : s.dn.length + s.un.length <= n
theorem add_le {l : List Deed} (h : ∀ o ∈ l, OpOK o) : z3a l <= 12 * l.length := by
 induction l with
 | nil => simp [z3a]
 | cons o l ih =>
  have h1 := ih fun q hq => h q (List.mem_cons_of_mem _ hq)
  have h2 := (h o List.mem_cons_self).cnt.2.1
  have h3 : zjo o <= cntT o.unit := by unfold zjo; split <;> omega
  unfold z3a at h1 ⊢
  rw [List.map_cons, List.sum_cons, List.length_cons]; omega
theorem Live.opsD {n : Nat} {s : Ses} (h : Live n s) : ∀ o ∈ s.dn, OpOK o := fun o ho => h.ops o (List.mem_append_left _ ho)
theorem Live.add {n : Nat} {s : Ses} (h : Live n s) : z3a s.dn <= 12 * n := by
 have h1 := add_le h.opsD
 have := h.len
 omega
theorem Live.mono {n m : Nat} {s : Ses} (h : Live n s) (hm : n <= m) : Live m s := ⟨h.ok, h.ops, Nat.le_trans h.len hm⟩
theorem zlb {t : T} (h : standsT t = true) : Live 0 ⟨t, [], []⟩ := ⟨⟨h, ok_nil t⟩, fun o ho => (by cases ho), by simp⟩
theorem Live.apply {n : Nat} {s : Ses} (h : Live n s) {o : Deed} (ho : OpOK o) : Live (n + 1) (z1r s o).2 := by
 refine ⟨apply_ok h.ok o, fun q hq => ?_, ?_⟩
 ·unfold z1r at hq
  split at hq
  ·simp only [List.append_nil, List.mem_append, List.mem_singleton] at hq
   rcases hq with hq | rfl
   ·exact h.opsD q hq
   ·exact ho
  ·exact h.ops q hq
 ·have := h.len
  unfold z1r
  split
  ·simp; omega
  ·show s.dn.length + s.un.length <= _; omega
theorem zsp (s : Ses) : (z5i s).2.base = s.base /\ (z5i s).2.dn ++ (z5i s).2.un = s.dn ++ s.un := by
 unfold z5i
 split
 ·exact ⟨rfl, rfl⟩
 ·rename_i o he
  refine ⟨rfl, ?_⟩
  obtain ⟨l, hl⟩ := List.getLast?_eq_some_iff.1 he
  show s.dn.dropLast ++ o :: s.un = _
  rw [hl, List.dropLast_concat, List.append_assoc]; rfl
theorem zsq (s : Ses) : (z7f s).2.base = s.base /\ (z7f s).2.dn ++ (z7f s).2.un = s.dn ++ s.un := by
 unfold z7f
 split
 ·exact ⟨rfl, rfl⟩
 ·rename_i o l he
  refine ⟨rfl, ?_⟩
  show (s.dn ++ [o]) ++ l = _
  rw [he, List.append_assoc]; rfl
theorem Live.undo {n : Nat} {s : Ses} (h : Live n s) : Live n (z5i s).2 := by
 obtain ⟨_, h2⟩ := zsp s
 refine ⟨undo_ok h.ok, fun q hq => h.ops q (by rw [<- h2]; exact hq), ?_⟩
 have h3 := h.len
 have h4 := congrArg List.length h2
 simp only [List.length_append] at h4
 omega
theorem Live.redo {n : Nat} {s : Ses} (h : Live n s) : Live n (z7f s).2 := by
 obtain ⟨_, h2⟩ := zsq s
 refine ⟨redo_ok h.ok, fun q hq => h.ops q (by rw [<- h2]; exact hq), ?_⟩
 have h3 := h.len
 have h4 := congrArg List.length h2
 simp only [List.length_append] at h4
 omega
def z77 (s : Ses) (p : Ky) : Ses := if p.k = 0 then (z1r s p.o).2 else if p.k = 1 then (z5i s).2 else if p.k = 2 then (z7f s).2 else s
theorem Live.press {n : Nat} {s : Ses} (h : Live n s) {p : Ky} (ho : OpOK p.o) : Live (n + 1) (z77 s p) := by
 unfold z77
 split
 ·exact h.apply ho
 ·split
  ·exact h.undo.mono (by omega)
  ·split
   ·exact h.redo.mono (by omega)
   ·exact h.mono (by omega)
def zlc (s : Ses) (l : List Ky) : Ses := l.foldl z77 s
theorem zld (s : Ses) (l : List Ky) (p : Ky) : zlc s (l ++ [p]) = z77 (zlc s l) p := by unfold zlc; rw [List.foldl_append]; rfl
theorem Live.run {s : Ses} : ∀ (l : List Ky) {n : Nat}, Live n s -> (∀ p ∈ l, OpOK p.o) -> Live (n + l.length) (zlc s l) := by
 intro l
 refine zje (p := fun l => ∀ {n : Nat}, Live n s -> (∀ p ∈ l, OpOK p.o) -> Live (n + l.length) (zlc s l)) (fun h _ => h) (fun l o ih n h hl => ?_) l
 rw [zld, List.length_append, List.length_singleton]
 have h1 := ih h fun p hp => hl p (List.mem_append_left _ hp)
 exact h1.press (hl o (by simp))
section
variable {n : Nat} {s : Ses} (h : Live n s) (hn : n <= 100)
include h hn
theorem Live.trees : ∀ t ∈ trees s.base (s.dn ++ s.un), szB t = true := by
 intro t ht
 unfold Tr.trees at ht
 obtain ⟨k, _, rfl⟩ := List.mem_map.1 ht
 exact (z21 (z6a h.ok.st (zp9 h.ok.ok k))).1
theorem Live.dsz : szB s.draft = true /\ cntT s.draft <= 1024 /\ depT s.draft <= 8 := z21 h.ok.draft
theorem Live.tcApply {o : Deed} (ho : OpOK o) (k : Nat) : TC prog 15 [.ptr k 0, z39 o] k (edO s) (edO (z1r s o).2) (.int .i64 (z1r s o).1) :=
 tc_Apply s h.ok.st (zn2 h.ok.ok) (fun q hq => (h.opsD q hq).sz) (by have := h.add; omega) (by have := h.len; omega) (by have := h.len; omega) o ho.sz k
theorem Live.tcApplyR {o : Deed} (ho : OpOK o) (k : Nat) : TC prog 50 [.ptr k 0, z39 o] k (stO s) (stO (z1r s o).2) (.int .i64 (z1r s o).1) :=
 zxb s h.ok.st (zn2 h.ok.ok) (fun q hq => (h.opsD q hq).sz) (by have := h.add; omega) (by have := h.len; omega) o ho.sz k
theorem Live.tcUndo (k : Nat) : TC prog 21 [.ptr k 0] k (edO s) (edO (z5i s).2) (.bool (z5i s).1) :=
 tc_Undo s (by have := h.len; omega) (by have := h.len; omega) k
theorem Live.tcRedo (k : Nat) : TC prog 22 [.ptr k 0] k (edO s) (edO (z7f s).2) (.bool (z7f s).1) :=
 tc_Redo s (by have := h.len; omega) (by have := h.len; omega) k
theorem Live.tcUndoR (k : Nat) : TC prog 30 [.ptr k 0] k (stO s) (stO (z5i s).2) (.bool (z5i s).1) :=
 tc_UndoR s (by have := h.len; omega) (by have := h.len; omega) k
theorem Live.tcRedoR (k : Nat) : TC prog 51 [.ptr k 0] k (stO s) (stO (z7f s).2) (.bool (z7f s).1) :=
 tc_RedoR s (by have := h.len; omega) (by have := h.len; omega) k
theorem Live.draftR (k : Nat) (H : HM) (nx : Nat) (O : k < nx) (hH : H k = some (stO s)) : RC prog 47 [.ptr k 0] H nx (.tup [z0g s.draft, .int .i64 (z3a s.dn : Nat)]) :=
 zmq s h.ok.st (zn2 h.ok.ok) (fun q hq => (h.opsD q hq).sz) (by have := h.add; omega) (by have := h.len; omega) k H nx O hH
theorem Live.rcDraft (k : Nat) (H : HM) (nx : Nat) (O : k < nx) (hH : H k = some (edO s)) : RC prog 18 [.ptr k 0] H nx (z0g s.draft) :=
 zdn (pc_Draft s h.ok.draft) (zbh _) k H nx O hH
theorem Live.rcBase (k : Nat) (H : HM) (nx : Nat) (O : k < nx) (hH : H k = some (edO s)) : RC prog 27 [.ptr k 0] H nx (z0g s.base) :=
 zdn (pc_Base s (z21 h.ok.st).1) (zbh _) k H nx O hH
end
theorem zjj (s : Ses) : z2t (edO s) = true := z2a s
theorem zjk (s : Ses) : z2t (stO s) = true := zbs s
end
end Go.Proofs.YtlfohdkfpdkhhaaGreatDoor
namespace Go.Proofs.YtlfohdkfpdkhhaaGreatDoor.Glue
open Go.ChangeShapes Go.WideShapes Go.ChangeAt Go.RowKit Abs Facts Tr
set_option maxRecDepth 100000
def S51 : List TypeId := [4, 3, 5, 9, 28, 23, 48, 50, 24, 27, 25, 32, 34, 35]
theorem zwc : zh9 Tryz.prog S51 = true := by decide +kernel
theorem typed_op {n : Nat} {ds : List D} (h : z4o Tryz.prog n 32 ds) : ∃ o : Deed, ds = z1l o /\ RdO o := by
 obtain ⟨m, rfl, h⟩ := z4s Tryz.underlying32 h
 obtain ⟨d1, r1, rfl, h1, d2, r2, rfl, h2, d3, r3, rfl, h3, d4, r4, rfl, h4, d5, r5, rfl, h5, d6, r6, rfl, h6, d7, r7, rfl, h7, rfl⟩ := h
 obtain ⟨k, rfl, _⟩ := z57 Tryz.underlying3 h1
 obtain ⟨a, rfl, ha1, ha2⟩ := z57 Tryz.underlying3 h2
 obtain ⟨i, rfl⟩ := zke h3
 obtain ⟨j, rfl⟩ := zke h4
 obtain ⟨l, rfl, hl1, hl2⟩ := zub Tryz.underlying28 Tryz.underlying9 zft h5
 obtain ⟨s, rfl, hs⟩ := zdb Tryz.underlying9 h6
 obtain ⟨t, rfl, ht⟩ := ziw _ h7
 refine ⟨⟨k, a, i, j, l, s, t⟩, ?_, ⟨hl1, hs, hl2, ht, ha1, ha2⟩⟩
 rw [List.append_nil]; rfl
theorem zwd {n : Nat} {ds : List D} (h : z4o Tryz.prog n 34 ds) : ∃ p : Ky, ds = za9 p /\ RdO p.o := by
 obtain ⟨m, rfl, h⟩ := z4s Tryz.underlying34 h
 obtain ⟨d1, r1, rfl, h1, d2, r2, rfl, h2, rfl⟩ := h
 obtain ⟨i, rfl⟩ : ∃ i : Int, d1 = [.int .u8 i] := by
  cases m with
  | zero => cases h1
  | succ m =>
   simp only [z4o, Tryz.underlying5] at h1
   obtain ⟨i, h1, _⟩ := h1
   exact ⟨i, h1⟩
 obtain ⟨o, rfl, ho⟩ := typed_op h2
 refine ⟨⟨i, o⟩, ?_, ho⟩
 rw [List.append_nil]; rfl
section
variable {H : Type} {enc : TypeId × Value -> H} {W : World} {base : Nat} {r : Reach} {b0 : Nat} {spare : Nat -> Bool} {held : Bool} {v : Value} {d : DataW H} {p : List MemPlace}
theorem rd_keys0 (hv : Value.okWide Tryz.prog W r b0 35 v) (h : DataW.Trod enc Tryz.prog W base spare held 35 v d p) : ∃ l : List Ky, (l.length <= maxLen /\ ∀ q ∈ l, RdO q.o) /\ rel (z7p W) (z5q l) v := by
 obtain ⟨a, n, c, rfl⟩ := okWide_slice Tryz.underlying35 hv
 obtain ⟨m, d', ht, hr⟩ := one_arg zwc (by decide) zzs rfl h
 obtain ⟨m, parts, rfl, hl, hp, he⟩ := z9i Tryz.underlying35 ht
 obtain ⟨l, rfl, hq⟩ := z58 (f := za9) (q := fun q : Ky => RdO q.o) (fun p hp => zwd hp) parts hp
 refine ⟨l, ⟨by simpa using hl, hq⟩, ?_⟩
 have : d' = z5q l := by
  simp only [List.cons.injEq, and_true] at he
  rw [he, zzr, sizeT34, List.map_map]; rfl
 rw [this] at hr; exact hr
theorem bytesK : Tryz.prog.bytesOf 34 = 232 := by kernel_rfl
theorem rd_keys (hv : Value.okWide Tryz.prog W r b0 35 v) (h : DataW.Trod enc Tryz.prog W base spare held 35 v d p) {ts : List TypeId} {ds : List (DataW H)} (hz : (DataW.weightsEach Tryz.prog ts ds).all (· <= reachBytes) = true) (j : Nat)
  (ht : ts[j]? = some 35) (V : ds[j]? = some d) : ∃ l : List Ky, (l.length <= 606627104962 /\ ∀ q ∈ l, RdO q.o) /\ rel (z7p W) (z5q l) v := by
 obtain ⟨l, ⟨h1, h2⟩, hr⟩ := rd_keys0 hv h
 refine ⟨l, ⟨?_, h2⟩, hr⟩
 obtain ⟨m, hm⟩ := h
 obtain ⟨a, n, c, rfl⟩ := okWide_slice Tryz.underlying35 hv
 have hln : l.length = 0 \/ l.length = n := by
  simp only [z5q, rel] at hr
  rcases hr with ⟨_, h3, _⟩ | ⟨a', cap, vs, h3, _⟩
  ·exact .inl (by simpa using h3)
  ·simp only [Value.slice.injEq, List.length_map] at h3
   exact .inr h3.2.1.symm
 rcases DataW.trod_slice Tryz.underlying35 hm with ⟨hc, hx⟩ | ⟨a', len, cap, elems, rest, q, _, hc, hx, _, _, _, hl, _⟩
 ·have hc : [Value.slice a n c] = [.slice none 0 0] := hc
  simp only [List.cons.injEq, Value.slice.injEq, and_true] at hc
  omega
 ·have hc : [Value.slice a n c] = [.slice (some a') len cap] := hc
  simp only [List.cons.injEq, Value.slice.injEq, and_true] at hc
  simp only [Prod.mk.injEq] at hx
  rw [hx.1] at V
  have := sized_slice hz ht V Tryz.underlying35
  rw [bytesK, List.length_map, List.length_map, show reachBytes = 140737488351232 from rfl] at this
  omega
end
end Go.Proofs.YtlfohdkfpdkhhaaGreatDoor.Glue
namespace Go.Proofs.YtlfohdkfpdkhhaaGreatDoor
section
open Abs Facts Tr Go.Lib Go.RowKit
namespace Abs
variable {P : Program}
theorem ze8 {N : Nat} {own : List Nat} {ops : Array Oper} {K : St -> Prop} {Q : Exit -> Act -> World -> Prop} {l2 : List Oper} : ∀ (l : List Oper) (st : St) (s : RS) (a : Act) (w : World),
  (∀ o ∈ l, zbk N o = true) -> z2l P own (zwm ops) l K st -> Fr P N st s a w ->
  (∀ st' s' a' w', K st' -> Fr P N st' s' a' w' -> Step s w s' w' -> wpList P ops Q l2 a' w') -> wpList P ops Q (l ++ l2) a w
 | [], st, s, a, w, _, h, hf, O => O st s a w h hf (Step.refl s w)
 | o :: rest, st, s, a, w, hdst, h, hf, O => by
  have ho := hdst o (by simp)
  have hrest : ∀ o' ∈ rest, zbk N o' = true := fun o' h' => hdst o' (List.mem_cons_of_mem _ h')
  simp only [z2l] at h
  rw [List.cons_append]
  unfold wpList
  rw [zgo] at h
  split at h
  ·rename_i hg
   rw [if_pos (z5t hf hg)]
   exact .inl (zgn hf ho h fun st' s' a' w' J hf' hstep =>
    ze8 rest st' s' a' w' hrest J hf' fun st2 s2 a2 w2 hK2 hf2 hstep2 => O st2 s2 a2 w2 hK2 hf2 (hstep.trans hstep2))
  ·rename_i hg
   rw [if_neg (by rw [z5t hf hg]; simp)]
   exact ze8 rest _ s _ w hrest h (hf.put0 ho zgm) O
  ·cases h
theorem zri {s : RS} : ∀ (n : Nat) (vs : List Value), vs.length = n -> relAll s (List.replicate n D.any) vs
 | 0, vs, h => by
  have : vs = [] := List.eq_nil_of_length_eq_zero h
  subst this; exact z0y
 | n + 1, [], h => by simp at h
 | n + 1, v :: vs, h => by
  rw [List.replicate_succ]
  exact z0m (by simp [rel]) (zri n vs (by simpa using h))
theorem zxe {N rid : Nat} {own : List Nat} {l1 : List Oper} {ops : Array Oper} {x lo : Operand} {d : Nat} {t e ty ty2 : TypeId} {pos pos2 : String} {aft aft2 : Array Edge} {z : Value} {Q : Exit -> St -> Prop} {st : St}
  (hops : ops.toList = l1 ++ [⟨some d, .slice t x (some lo) none none, ty, pos, aft, none⟩, ⟨none, .call { callee := .builtin .clear, args := #[.tmp d], argTypes := #[t] }, ty2, pos2, aft2, none⟩])
  (hN : ∀ o ∈ l1, zbk N o = true) (V : d < N) (ht : z1c P t = some e) (hsz : z09 P e ≠ 0) (hz : (P.info? e).bind (·.zero) = some z) (hzs : z.cells.size = z09 P e) (hz1 : ∀ v ∈ z.cells.toList, v.oneCell' = true)
  (h : z2l P own (zwm ops) l1 (fun st1 => ∃ id n i cs, st1.ev x = .osl id n /\ st1.ev lo = .int .i64 (i : Nat) /\ st1.H id = some (.row e n cs) /\ i < n /\
   Q .normal (({ st1 with H := z12 st1.H id (some (.row e n (cs.take (i * z09 P e) ++ List.replicate ((n - i) * z09 P e) .any))) } : St).put (some d) .any)) st) : Sem P N (.region rid ops false) Q st := by
 intro s0 w0 s a w hf hs
 refine wp_region_list ?_
 rw [hops]
 refine ze8 l1 st s a w hN h hf ?_
 rintro st1 s1 a1 w1 ⟨id, n, i, cs, hx, hlo, hH, hi, hQ⟩ hf1 hs1
 have hu := z2x ht
 obtain ⟨inf, hinf⟩ := z2h hsz
 have hso := z26 (P := P) hinf
 have hH1 : s1.H id = some (.row e n cs) := by rw [hf1.H]; exact hH
 have hvx := hf1.ev x
 rw [hx] at hvx
 have hvlo := hf1.ev lo
 rw [hlo] at hvlo
 simp only [rel] at hvx hvlo
 obtain ⟨hid, _, hlive⟩ := hvx
 have hv := (hlive _ _ _ hH1).2 rfl
 obtain ⟨vs, ho, hr, h1, hcl, _⟩ := z4k hf1.heap hH1
 have hvl := ho.1
 rcases ho.2 with ⟨_, rfl⟩ | ⟨g, cap, cur, hκ, _, hg, hnc, hcm, hcs, htake⟩
 ·omega
 rw [hκ] at hv
 have hgs : g < w1.heap.size := by
  rcases Nat.lt_or_ge g w1.heap.size with h9 | h9
  ·exact h9
  ·rw [Array.getElem?_eq_none h9] at hg; cases hg
 have hb := z5f (P := P) (len := n) (cap := cap) (lo := some (a1.eval lo)) (hi := none) (l := (i : Int)) (h := (n : Nat)) (w := w1) hnc (.inr ⟨.i64, by rw [hvlo]⟩) (.inl ⟨rfl, rfl⟩) (by omega) (by omega) (by omega)
 have hci : ¬ cap = i := by omega
 have hrun1 : (Instr.sliceAt t (a1.eval x) (some (a1.eval lo)) none none).run P w1 = .ok (.slice (some ⟨g, i * z09 P e, none⟩) (n - i) (cap - i)) w1 := by
  rw [hv]
  simp [Instr.sliceAt, Instr.slice, run_underlying hu, hb, hso, hci]
  simp [Addr.add]
  try exact fun h => h.symm
 have hzv : ∀ w, (zeroValue e).run P w = .ok z w := fun w => by
  cases hq : P.info? e with
  | none => rw [hq] at hz; cases hz
  | some i0 =>
   rw [hq] at hz
   have hz : i0.zero = some z := hz
   simp [zeroValue, typeInfo, hq, hz]
 have hcap : cur.size = cap * z09 P e := hcs
 have hmul : i * z09 P e + (n - i) * z09 P e = n * z09 P e := by rw [<- Nat.add_mul]; congr 1; omega
 have hmul2 : n * z09 P e <= cap * z09 P e := Nat.mul_le_mul_right _ hnc
 have hrun2 : ∀ dc, (Builtin.clear_ #[t] ty2 #[.slice (some ⟨g, i * z09 P e, none⟩) (n - i) dc]).run P w1 = .ok (.tuple #[]) (w1.setRow g (cur.toList.take (i * z09 P e) ++ (Builtin.zeroCells z.cells (n - i)).toList ++ cur.toList.drop (i * z09 P e + (n - i) * z09 P e)).toArray) := fun dc =>
  zde (P := P) w1 t e ty2 z (z09 P e) g (i * z09 P e) (n - i) dc cur hu hzv hzs hz1 (by omega) hg (by omega)
 unfold wpList
 have hw1 : Region.wanted (⟨some d, .slice t x (some lo) none none, ty, pos, aft, none⟩ : Oper) (yielded ops a1.tmps) = true := by simp [Region.wanted]
 rw [if_pos hw1]
 refine .inl ?_
 unfold Oper.wp
 have he1 : (execOp a1.eval ⟨some d, .slice t x (some lo) none none, ty, pos, aft, none⟩).run P w1 = .ok (.value (.slice (some ⟨g, i * z09 P e, none⟩) (n - i) (cap - i))) w1 := by
  unfold execOp
  simp [hrun1]
 rw [he1, Oper.upon_value]
 have hsz1 : d < a1.tmps.size := by rw [hf1.size]; exact V
 have hdv : (a1.put (some d) (.slice (some ⟨g, i * z09 P e, none⟩) (n - i) (cap - i))).eval (.tmp d) = .slice (some ⟨g, i * z09 P e, none⟩) (n - i) (cap - i) := by
  simp [Act.put, Act.eval, Array.getD, hsz1]
 refine z8t _ rfl _ _ rfl _ hdv (hrun2 _) ?_
 unfold wpList
 have hzl : (Builtin.zeroCells z.cells (n - i)).toList.length = (n - i) * z09 P e := by rw [Array.length_toList, size_zeroCells, hzs]
 obtain ⟨zs, hzs2, hzl2⟩ : ∃ zs, zs = (Builtin.zeroCells z.cells (n - i)).toList /\ zs.length = (n - i) * z09 P e := ⟨_, rfl, hzl⟩
 have hz1' : z6k zs := by
  intro v hv'
  rw [hzs2] at hv'
  simp only [Builtin.zeroCells, Array.toList_map, Array.toList_range, List.mem_map, List.mem_range] at hv'
  obtain ⟨k, O, rfl⟩ := hv'
  have h0 : 0 < z.cells.size := by omega
  have hkm := Nat.mod_lt k h0
  rw [getElem!_pos z.cells _ hkm]
  exact hz1 _ (by simp)
 rw [<- hzs2]
 have hcl2 : cur.toList.take (i * z09 P e) = vs.take (i * z09 P e) := by
  rw [<- htake, List.take_take]; congr 1; omega
 have hnew : ∀ (s' : RS), relAll s' cs vs -> relAll s' (cs.take (i * z09 P e) ++ List.replicate ((n - i) * z09 P e) .any) (vs.take (i * z09 P e) ++ zs) := fun s' hr' =>
  z1n (z4q _ hr') (zri _ _ hzl2)
 have hbk : blockOf (s1.κ id) = some g := by rw [hκ]; rfl
 obtain ⟨g1, g2⟩ := z8f (w' := w1.setRow g (cur.toList.take (i * z09 P e) ++ zs ++ cur.toList.drop (i * z09 P e + (n - i) * z09 P e)).toArray) hf1.heap id (.row e n cs) (.row e n (cs.take (i * z09 P e) ++ List.replicate ((n - i) * z09 P e) .any)) (s1.κ id) hH1 rfl rfl rfl (by simp [World.setRow])
  (fun k O hne => by
   simp only [World.setRow, Array.getElem?_modify]
   rw [if_neg (fun h => hne (by rw [hbk, h]))])
  (.inr ⟨n, _, rfl, Nat.le_refl _, fun _ => rfl⟩) (fun b hb => .inl hb)
  (fun hl => ⟨vs.take (i * z09 P e) ++ zs, ⟨by rw [List.length_append, List.length_take, hzl2]; omega, .inr ⟨g, cap, (cur.toList.take (i * z09 P e) ++ zs ++ cur.toList.drop (i * z09 P e + (n - i) * z09 P e)).toArray, hκ, Nat.zero_le _, by
    simp [World.setRow, Array.getElem?_modify, hg], hnc, hcm, by
    rw [List.size_toArray, List.length_append, List.length_append, List.length_take, hzl2, List.length_drop, Array.length_toList]; omega, by
    have hll : (cur.toList.take (i * z09 P e) ++ zs).length = n * z09 P e := by rw [List.length_append, List.length_take, hzl2, Array.length_toList]; omega
    rw [<- hcl2]
    show List.take _ (cur.toList.take (i * z09 P e) ++ zs ++ cur.toList.drop (i * z09 P e + (n - i) * z09 P e)) = _
    exact List.take_left' hll⟩⟩, hnew _ (relAll.later hl _ _ hr), z3t (zap h1 _) hz1'⟩)
 refine ⟨_, _, hQ, ?_, hs.trans (hs1.trans g1)⟩
 have hp := hf1.put (o := ⟨some d, .slice t x (some lo) none none, ty, pos, aft, none⟩) g1.later g2 (by simp only [zbk, decide_eq_true_eq]; exact V) (d := .any) (v := .slice (some ⟨g, i * z09 P e, none⟩) (n - i) (cap - i)) (by simp [rel]) (H := z12 st1.H id (some (.row e n (cs.take (i * z09 P e) ++ List.replicate ((n - i) * z09 P e) .any)))) (nx := st1.nx) (by simp only [RS.set, hf1.H]) (by simp only [RS.set, hf1.nx])
 exact hp
end Abs
end
open _root_.Go.Proofs.Tryz
section
open Abs Facts Tr
attribute [local irreducible] awp
set_option maxRecDepth 100000
namespace Tr
theorem zm2 {α : Type} (f : α -> Bool) (l : List α) (h : z32 f l < l.length) : (l.take (z32 f l + 1)).filter (fun x => !f x) = l.take (z32 f l) := by
 have O : ∀ j (hj : j < z32 f l), f (l[j]'(by omega)) = false := fun j hj => by
  have h2 := List.getElem_mem (l := l.takeWhile fun x => !f x) (n := j) hj
  have h3 : (l.takeWhile fun x => !f x)[j]'hj = l[j]'(by omega) := List.IsPrefix.getElem (List.takeWhile_prefix _) hj
  have h4 := List.all_eq_true.1 (List.all_takeWhile (p := fun x => !f x) (l := l)) _ h2
  rw [h3] at h4; simpa using h4
 have hf : f l[z32 f l] = true := by
  cases hq : f l[z32 f l] with
  | true => rfl
  | false =>
   exfalso
   have h5 : z32 f l = (z32 f l) + 1 \/ True := .inr trivial
   have : ∀ (m : List α) (hm : (m.takeWhile fun x => !f x).length < m.length), (!f (m[(m.takeWhile fun x => !f x).length]'hm)) = false := by
    intro m
    induction m with
    | nil => intro hm; simp at hm
    | cons a m ih =>
     intro hm
     cases ha : f a with
     | true => simp [List.takeWhile, ha]
     | false =>
      have ha' : (!f a) = true := by rw [ha]; rfl
      have e : ((a :: m).takeWhile fun x => !f x) = a :: m.takeWhile fun x => !f x := by simp [List.takeWhile, ha]
      have hm2 : (m.takeWhile fun x => !f x).length < m.length := by rw [e] at hm; simpa using hm
      have := ih hm2
      simp only [e, List.length_cons, List.getElem_cons_succ]
      exact this
   have := this l h
   have h9 : (!f l[z32 f l]) = false := this
   rw [hq] at h9; cases h9
 rw [List.take_succ_eq_append_getElem h, List.filter_append]
 have h1 : (l.take (z32 f l)).filter (fun x => !f x) = l.take (z32 f l) := by
  refine List.filter_eq_self.2 fun x hx => ?_
  obtain ⟨j, hj, rfl⟩ := List.getElem_of_mem hx
  rw [List.length_take] at hj
  rw [List.getElem_take, O j (by omega)]; rfl
 rw [h1]; simp [hf]
theorem zo9 {α : Type} (f : α -> Bool) (l : List α) (h : ¬ z32 f l < l.length) : l.filter (fun x => !f x) = l := by
 have h1 := z9h f l
 rw [decide_eq_false h] at h1
 refine List.filter_eq_self.2 fun x hx => ?_
 have := List.any_eq_false.1 h1.symm x hx
 simpa using this
end Tr
theorem zm3 {f : Idv -> List D} {sz : Nat} (h : ∀ x, (f x).length = sz) (B : List D) : ∀ l : List Idv, z1i true sz l.length (l.flatMap f ++ B) = l.map fun x => .agg (f x)
 | [] => rfl
 | x :: l => by
  have e : (x :: l).flatMap f ++ B = f x ++ (l.flatMap f ++ B) := by rw [List.flatMap_cons, List.append_assoc]
  rw [e]
  simp only [List.length_cons, z1i, if_true, List.map_cons]
  rw [List.take_left' (h x), List.drop_left' (h x), zm3 h B l]
theorem zih {ag : Bool} {sz : Nat} : ∀ (n i : Nat) (cs : List D), i <= n -> (z1i ag sz n cs).take i = z1i ag sz i cs
 | _, 0, _, _ => rfl
 | 0, i + 1, _, h => by omega
 | n + 1, i + 1, cs, h => by simp only [z1i, List.take_succ_cons, zih n i _ (by omega)]
theorem zm4 {ag : Bool} {sz : Nat} : ∀ (n : Nat) (cs : List D), (z1i ag sz n cs).length = n
 | 0, _ => rfl
 | n + 1, cs => by simp only [z1i, List.length_cons, zm4 n]
theorem zm5 : ∀ n : Nat, pureD.pureL (List.replicate n D.any) = true
 | 0 => rfl
 | n + 1 => by rw [List.replicate_succ]; exact zm5 n
theorem zii : ∀ l : List Idv, pureD.pureL (l.flatMap z0b) = true := z1t zla
theorem zt7 {P : Program} {id e k : Nat} {cs : List D} {o : HObj} (h : z2t o = true) : zdu P id e k cs o = o := by
 cases o with
 | box t ds => simp only [zdu, z5o ds h]
 | row t n ds => simp only [zdu, z5o ds h]
 | map es => rfl
 | raw q => rfl
theorem zm6 {K : St -> Prop} {Q : Exit -> St -> Prop} {st : St} (h : K st) : ztn K Q .normal st := h
theorem zr9 {H : HM} {id : Nat} {l : List Idv} (k : Nat) (h : H id = some (.row 23 l.length (l.flatMap z0b))) : z2p prog H (k + 2) (.osl id l.length) = some (z15 l) :=
 z1e k h z1o z88 (fun _ => rfl) (fun _ => rfl)
theorem zt8 {H : HM} {nx id : Nat} {l : List Idv} (hid : H id = some (.row 23 l.length (l.flatMap z0b))) (hlt : id < nx) (hl : l.length <= 1000000) {g : FuncId} {cap : List D} (f : Idv -> Bool) (hc : pureD.pureL cap = true) (hp : ∀ x, PC prog g (z1a x :: cap) (.bool (f x)))
  (hpo : ∀ q o, q < nx -> q ≠ id -> H q = some o -> z2t o = true) :
  AC prog 52 [.osl id l.length, .fn g cap] H nx fun r H' _ => (r = .osl id l.length /\ H' = H /\ l.filter (fun x => !f x) = l) \/ (r = z15 (l.filter fun x => !f x) /\ ∀ q, q < nx -> q ≠ id -> H' q = H q) := by
 have hix := zd7 false l (by unfold maxLen; omega) f hc (fun x _ => hp x)
 have hnb := zag hlt
 have hfn : ∀ k, z2p prog H (k + 1) (.fn g cap) = some (.fn g cap) := fun k => z02 k hc
 refine zyr func52 rfl (by decide +kernel) (by simp [ntmps52]) ?_
 refine Sem.seq (Sem.walk (own := []) zji (by decide +kernel) ?_)
 repeat' (first | ((refine zqr fun K J => ?_); (simp (disch := omega) only [go_sem, ↓reduceIte])) | (refine J _ ?_; clear J K))
 refine zm6 ?_
 refine Sem.seq (Sem.walk (own := []) zji (by decide +kernel) ?_)
 repeat' (((refine zqr fun K J => ?_); (simp (disch := omega) only [go_sem, Nat.reduceBEq])))
 refine z0w (PC.borrow hix rfl 3 (z00 (zr9 1 hid) (z00 (hfn 2) z0d))) ?_
 (try (simp (disch := omega) only [go_sem, Nat.reduceBEq])); repeat' ((refine J _ ?_; clear J K))
 refine zm6 ?_
 refine Sem.seq (Sem.walk (own := []) zji (by decide +kernel) ?_)
 by_cases O : z32 f l < l.length
 ·repeat' (first | ((refine zqh fun K J => ?_); (simp (disch := omega) only [go_sem, Nat.reduceBEq, ↓reduceIte, reduceCtorEq, O])) | ((refine zqm _ rfl (fun hc => ?_) (fun hc => ?_)) <;> (first | (cases hc; done) | ((try simp only [] at hc); (try omega)))) | refine nxt ?_ | (refine J _ ?_; clear J K))
  refine zm6 ?_
  refine Sem.seq (Sem.walk (own := []) zji (by decide +kernel) ?_)
  repeat' (first | ((refine zqh fun K J => ?_); (simp (disch := omega) only [go_sem, Nat.reduceBEq, ↓reduceIte])) | refine nxt ?_ | (refine J _ ?_; clear J K))
  (refine z3c (fun U st => ∃ (i : Nat) (j : Nat) (L : List Idv), U = l.length - j /\ st.t 0 = .osl id l.length /\ st.t 1 = .fn g cap /\ st.t 5 = .int .i64 i /\ st.t 6 = .int .i64 j /\ st.H (id) = some (.row 23 l.length (L.flatMap z0b)) /\ (i < j) /\ (j <= l.length) /\ (L.length = l.length) /\ (L.take i = (l.take j).filter (fun x => !f x)) /\ (L.drop j = l.drop j) /\ (nx <= st.nx) /\ (∀ q, q < nx -> q ≠ id -> st.H q = H q)) ?_ ?_); rotate_left; (rintro U st ⟨i, j, L, rfl, q0, q1, q5, q6, qHid, qp0, qp1, qp2, qp3, qp4, qp5, qp6⟩); rotate_left
  ·(refine ⟨_, z32 f l, z32 f l + 1, l, rfl, ?_⟩); (simp (disch := omega) only [go_sem, Nat.reduceBEq, true_and, Int.natCast_add, Int.natCast_one, hid])
   repeat' (first | omega | exact (zm2 f l O).symm | exact fun _ _ _ => trivial | refine And.intro ?_ ?_)
  by_cases hj : j < l.length
  ·have hjL : L[j] = l[j] := by
    have h1 : L.drop j = L[j] :: L.drop (j + 1) := List.drop_eq_getElem_cons (by omega)
    have h2 : l.drop j = l[j] :: l.drop (j + 1) := List.drop_eq_getElem_cons hj
    rw [h1, h2, List.cons.injEq] at qp4
    exact qp4.1
   have hdj : L.drop (j + 1) = l.drop (j + 1) := by
    rw [<- List.drop_drop, <- List.drop_drop, qp4]
   have htk := List.take_succ_eq_append_getElem hj
   have hdr := hp l[j]
   have hld : ((L.flatMap z0b).drop (j * 3)).take 3 = z0b l[j] := by rw [<- hjL]; exact zhr (f := z0b) (sz := 3) (fun _ => rfl) (by omega)
   have hln : (L.flatMap z0b).length = l.length * 3 := by rw [z43 (f := z0b) (sz := 3) (fun _ => rfl), qp2]
   by_cases hfj : f l[j] = true
   ·rw [hfj] at hdr
    repeat' (first | refine nxt ?_ | ((first | refine zqh fun K J => ?_ | refine zqr fun K J => ?_ | refine zqs (hdr) ?_); (simp (disch := omega) only [go_sem, Nat.reduceBEq, ↓reduceIte, reduceCtorEq, Nat.reduceAdd, q0, q1, q6, qHid, hld, hln])) | ((first | refine zqd _ rfl (fun hc => ?_) (fun hc => ?_) | refine zqm _ rfl (fun hc => ?_) (fun hc => ?_)) <;> (first | (cases hc; done) | ((try simp only [z07] at hc); (try omega)))) | (refine J _ ?_; clear J K))
    (refine Exists.intro _ (And.intro ?_ ⟨i, j + 1, L, rfl, ?_⟩)); rotate_left; (simp (disch := omega) only [go_sem, Nat.reduceBEq, q0, q1, q5, q6, qHid, true_and, Int.natCast_add, Int.natCast_one]); rotate_left
    all_goals (repeat' (first | omega | exact (fun q hq hne => by simp (disch := omega) only [z1p]; exact qp6 q hq hne) | (rw [qp3, htk, List.filter_append]; simp [hfj]; done) | refine And.intro ?_ ?_))
   ·rw [Bool.not_eq_true] at hfj
    rw [hfj] at hdr
    have hsp : ((((L.flatMap z0b).set (i * 3) (.int .i64 l[j].act)).set (i * 3 + 1) (.int .i64 l[j].item)).set (i * 3 + 1 + 1) (.int .i64 l[j].n)) = (L.set i l[j]).flatMap z0b :=
     z6d (f := z0b) (sz := 3) (fun _ => rfl) (y := l[j]) (show i < L.length by omega)
    repeat' (first | refine nxt ?_ | ((first | refine zqh fun K J => ?_ | refine zqr fun K J => ?_ | refine zqs (hdr) ?_); (simp (disch := omega) only [go_sem, Nat.reduceBEq, ↓reduceIte, reduceCtorEq, Nat.reduceAdd, Nat.reduceLeDiff, q0, q1, q5, q6, qHid, hld, hln, z0b])) | ((first | refine zqd _ rfl (fun hc => ?_) (fun hc => ?_) | refine zqm _ rfl (fun hc => ?_) (fun hc => ?_)) <;> (first | (cases hc; done) | ((try simp only [z07] at hc); (try omega)))) | (refine J _ ?_; clear J K))
    have e1 : (L.set i l[j]).take (i + 1) = L.take i ++ [l[j]] := by
     rw [List.take_succ_eq_append_getElem (by rw [List.length_set]; omega), List.getElem_set_self, List.take_set_of_le (Nat.le_refl _)]
    have e2 : (L.set i l[j]).drop (j + 1) = l.drop (j + 1) := by rw [List.drop_set_of_lt (by omega)]; exact hdj
    (refine Exists.intro _ (And.intro ?_ ⟨i + 1, j + 1, (L.set i l[j]), rfl, ?_⟩)); rotate_left; (simp (disch := omega) only [go_sem, Nat.reduceBEq, q0, q1, q5, q6, qHid, true_and, Int.natCast_add, Int.natCast_one, hsp, List.length_set]); rotate_left
    all_goals (repeat' (first | omega | exact (fun q hq hne => by simp (disch := omega) only [z1p]; exact qp6 q hq hne) | (rw [e1, qp3, htk, List.filter_append]; simp [hfj]; done) | refine And.intro ?_ ?_))
  ·have hje : j = l.length := by omega
   subst hje
   rw [List.take_length] at qp3
   repeat' (first | refine nxt ?_ | ((refine zqh fun K J => ?_); (simp (disch := omega) only [go_sem, Nat.reduceBEq, ↓reduceIte, q0, q6])) | (refine zqd _ rfl ?_ ?_ <;> intro hc <;> (((try simp only [z07] at hc); (try omega)))) | (refine J _ ?_; clear J K))
   refine zqz (zm6 ?_)
   refine Sem.seq (zxe (own := []) (l1 := [_, _]) (e := 23) rfl (by intro o ho; simp at ho; rcases ho with rfl | rfl <;> decide) (by decide) elemT64 (by rw [z88]; decide) (z := .agg #[.int .i64 0, .int .i64 0, .int .i64 0]) (by kernel_rfl) (by rw [z88]; rfl) (by decide) ?_)
   (simp (disch := omega) only [go_sem, Nat.reduceBEq, q0, q5])
   refine ⟨id, l.length, i, _, rfl, rfl, qHid, qp0, ?_⟩
   have hpc : pureD.pureL ((L.flatMap z0b).take (i * 3) ++ List.replicate ((l.length - i) * 3) D.any) = true := by
    rw [za2, zg1 _ _ (zii L), zm5]; rfl
   have hg : (z1i true 3 l.length ((L.flatMap z0b).take (i * 3) ++ List.replicate ((l.length - i) * 3) D.any)).take i = (L.take i).map z1a := by
    rw [zih _ _ _ (by omega)]
    have h1 : (L.flatMap z0b).take (i * 3) = (L.take i).flatMap z0b := by
     have h2 := z43 (f := z0b) (sz := 3) (fun _ => rfl) (L.take i)
     rw [List.length_take, Nat.min_eq_left (by omega)] at h2
     conv => lhs; rw [<- List.take_append_drop i L, List.flatMap_append]
     exact List.take_left' h2
    rw [h1]
    have h3 := zm3 (f := z0b) (sz := 3) (fun _ => rfl) (List.replicate ((l.length - i) * 3) D.any) (L.take i)
    rw [List.length_take, Nat.min_eq_left (by omega)] at h3
    exact h3
   have hgl := zm4 (ag := true) (sz := 3) l.length ((L.flatMap z0b).take (i * 3) ++ List.replicate ((l.length - i) * 3) D.any)
   refine zm6 (Sem.seal _ (zg2 (id := id) (e := 23) (k := l.length) (if_pos rfl) (by decide +kernel) hpc) ?_)
   refine Sem.walk (own := []) zji (by decide +kernel) ?_
   repeat' (first | ((refine zqh fun K J => ?_); (simp (disch := omega) only [go_sem, Nat.reduceBEq, reduceCtorEq, q0, q5, hg, hgl])) | refine nxt ?_ | refine zqu (by simp only [go_sem]; rfl) rfl ?_ | (refine J _ ?_; clear J K))
   refine .inr ⟨show D.rsl false 3 (List.map z1a (List.take i L)) = _ from by rw [qp3]; rfl, fun q hq hne => ?_⟩
   (simp (disch := omega) only [go_sem])
   rw [show (q == id) = false from by simpa using hne]
   simp only [cond_false]
   rw [qp6 q hq hne]
   cases ho : H q with
   | none => rfl
   | some o => simp only [Option.map_some, zt7 (hpo q o hq hne ho)]
 ·have hfl := zo9 f l O
  repeat' (first | ((refine zqh fun K J => ?_); (simp (disch := omega) only [go_sem, Nat.reduceBEq, ↓reduceIte, O])) | ((refine zqm _ rfl (fun hc => ?_) (fun hc => ?_)) <;> (first | (cases hc; done) | ((try simp only [] at hc); (try omega)))) | refine nxt ?_ | refine zqu (by simp only [go_sem]; rfl) rfl ?_ | (refine J _ ?_; clear J K))
  exact .inl ⟨rfl, rfl, hfl⟩
theorem oc_IDs (u : T) (hfit : fitB u = true) (hs : cntT u <= 5000000000000) : OC prog 38 [z0g u] [.row 23 (z0i u).length ((z0i u).flatMap z0b)] (.osl 0 (z0i u).length) := by
 refine z91 (by simp only [pureD.pureL, z01, Bool.and_self]) rfl (fun o ho => by
  simp only [List.mem_singleton] at ho
  subst ho
  exact zii _) (z0z [] func38 rfl (by decide +kernel) rfl ?_)
 show awp _ _ (Code.seq _ _) _ _
 (refine zqh fun K J => ?_); (simp only [go_sem, ↓reduceIte]); (refine J _ ?_); (clear J K)
 refine z1f fun K J => ?_
 (simp (disch := omega) only [go_sem, Nat.reduceAdd])
 refine J _ _ (zlo (b := 1) (e := 64) 23 (by (simp (disch := omega) only [go_sem, Nat.reduceBEq]))) ?_
 clear J K
 repeat' (((refine zqh fun K J => ?_); (simp (disch := omega) only [go_sem, Nat.reduceBEq, ↓reduceIte, Nat.reduceAdd, Nat.reduceLeDiff])))
 have h := zd4 (fun x l => (true, l ++ [x.id])) (low_I u) List.length (z0l u).length (fun x l => by simp) u hfit (fun x _ l hl => zrw u x l (by unfold cntT at hs; omega)) [] (by simp)
 rw [zkm] at h
 refine z4h h (Nat.le_refl _) (fun j hj => ?_) fun H1 hs1 _ => ?_
 ·match j, hj with
  | 0, _ => rfl
  | 1, _ => rfl
  | 2, _ => rfl
 ·have h1 : H1 1 = some (.box 64 [.osl 2 (z0i u).length]) := hs1 1 (by omega)
  have h2 : H1 2 = some (.row 23 (z0i u).length ((z0i u).flatMap z0b)) := hs1 2 (by omega)
  (try (simp (disch := omega) only [go_sem])); repeat' (first | ((refine zqh fun K J => ?_); (simp (disch := omega) only [go_sem, Nat.reduceBEq, ↓reduceIte, Nat.reduceAdd, h1])) | refine nxt ?_ | refine zqu (by simp only [go_sem]; rfl) rfl ?_ | (refine J _ ?_; clear J K))
  refine ⟨fun j => 2 + j, fun i j _ _ h => Nat.add_left_cancel h, ?_, fun j hj => ?_⟩
  ·(simp (disch := omega) only [go_sem, Nat.reduceBEq, renD])
  ·match j, hj with
   | 0, _ => (simp (disch := omega) only [go_sem, h2])
theorem pc_New1 (i : Idv) : PC prog 53 [z1a i] (.bool (!zef i)) := by
 have c1 := pc_own i
 refine z14 1 rfl rfl (z0z [] func53 rfl (by decide +kernel) rfl ?_)
 show awp _ _ (Code.seq _ _) _ _
 repeat' (first | ((first | refine zqh fun K J => ?_ | refine zqs (c1) ?_); (simp (disch := omega) only [go_sem, Nat.reduceBEq, ↓reduceIte, Nat.reduceAdd, Nat.reduceLeDiff])) | refine nxt ?_ | refine zqu (by simp only [go_sem]; rfl) rfl ?_ | (refine J _ ?_; clear J K))
 exact z03 rfl
theorem zwg (s : Ses) (hz : szB s.draft = true) (hc : cntT s.draft <= 1000000) (k : Nat) : TC prog 29 [.ptr k 0] k (edO s) (edO s) (z15 ((z0i s.draft).filter zef)) := by
 have c1 := zdn (zam s) (zbh _) 0
 have c2 := oc_IDs s.draft (z80 _ hz) (by omega)
 have hil := z2c s.draft
 refine zrg (k := 3) (ds := [.ptr 0 0]) rfl (z47 _) (show z2t (edO s) = true from z2a s) (show z2t (edO s) = true from z2a s) (z0z [] func29 rfl (by decide +kernel) rfl ?_) k rfl
 show awp _ _ (Code.seq _ _) _ _
 rw [show Tryz.f29.results.toList = [.tmp 2] from rfl]
 unfold edO
 repeat' (first | ((first | refine zqh fun K J => ?_ | ((refine z0w (c1 _ _ ?_ ?_) ?_); (focus (((simp (disch := omega) only [go_sem, Nat.reduceLT]); done))); (focus ((simp (disch := omega) only [go_sem]); done))) | refine z6n (c2) ?_); (simp (disch := omega) only [go_sem, Nat.reduceBEq, ↓reduceIte, Nat.reduceAdd, z0g])) | (refine J _ ?_; clear J K))
 refine z82 (AC.mono (zt8 (l := z0i s.draft) (id := 1) (by (simp (disch := omega) only [go_sem, Nat.reduceBEq])) (show 1 < 2 by decide) (by omega) (fun i => !zef i) rfl (fun x => pc_New1 x) (fun q o hq hne ho => ?_)) ?_)
 ·have hq0 : q = 0 := by have hq : q < 2 := hq; omega
  subst hq0
  cases ho
  exact z2a s
 rintro r H' n' (⟨rfl, rfl, hfe⟩ | ⟨rfl, hk2⟩)
 ·(try (simp (disch := omega) only [go_sem, Nat.reduceBEq])); repeat' (first | refine nxt ?_ | refine zqu (by (simp (disch := omega) only [go_sem, Nat.reduceBEq]); rfl) rfl ?_ | (refine J _ ?_; clear J K))
  have hfe2 : (z0i s.draft).filter zef = z0i s.draft := by simpa using hfe
  rw [hfe2]
  refine ⟨⟨_, zr9 1 (by rw [zzd (by omega)]; (simp (disch := omega) only [go_sem, Nat.reduceBEq])), Le.refl _⟩, ?_⟩
  (simp (disch := omega) only [go_sem, Nat.reduceBEq])
 ·(try (simp (disch := omega) only [go_sem, Nat.reduceBEq, ↓reduceIte])); repeat' (first | refine nxt ?_ | refine zqu (by (simp (disch := omega) only [go_sem, Nat.reduceBEq]); rfl) rfl ?_ | (refine J _ ?_; clear J K))
  simp only [Bool.not_not]
  exact ⟨⟨_, z02 2 (z47 _), Le.refl _⟩, (hk2 0 (show 0 < 2 by decide) (by decide)).trans rfl⟩
end
section
open Abs Facts Tr
attribute [local irreducible] awp
set_option maxRecDepth 100000
theorem TC_rc {P : Program} {f : FuncId} {ds : List D} {k : Nat} {o : HObj} {r : D} (h : TC P f ds k o o r) : ∀ H nx, k < nx -> H k = some o -> RC P f ds H nx r := fun H nx O hH =>
 (h H nx O hH).mono fun r' H2 n2 ⟨e1, e2, e3⟩ => ⟨e1, by
  rw [e2]; funext q; unfold z12
  by_cases c : q = k
  ·subst c; rw [if_pos rfl]; exact hH.symm
  ·rw [if_neg c], e3⟩
theorem DC_rc {P : Program} {f : FuncId} {ds : List D} {i j : Nat} {a b : HObj} {r : D} (h : DC P f ds i j a a b b r) : ∀ H nx, i < nx -> j < nx -> H i = some a -> H j = some b -> RC P f ds H nx r := fun H nx hi hj hHi hHj =>
 (h H nx hi hj hHi hHj).mono fun r' H2 n2 ⟨e1, e2, e3⟩ => ⟨e1, by
  rw [e2]; funext q; unfold z12
  by_cases c : q = j
  ·subst c; rw [if_pos rfl]; exact hHj.symm
  ·rw [if_neg c]
   by_cases c2 : q = i
   ·subst c2; rw [if_pos rfl]; exact hHi.symm
   ·rw [if_neg c2], e3⟩
section
variable {n : Nat} {s : Ses} (h : Live n s) (hn : n <= 100)
include h hn
theorem Live.rcLog (k : Nat) : ∀ H nx, k < nx -> H k = some (edO s) -> RC prog 20 [.ptr k 0] H nx (z20 s.dn) :=
 TC_rc (tc_Log s (by have := h.len; omega) (by have := h.len; omega) (fun o ho => ⟨(h.opsD o ho).sz.ws, (h.opsD o ho).sz.un⟩) k)
theorem Live.rcNew (k : Nat) : ∀ H nx, k < nx -> H k = some (edO s) -> RC prog 29 [.ptr k 0] H nx (z15 ((z0i s.draft).filter zef)) :=
 TC_rc (zwg s (h.dsz hn).1 (by have := (h.dsz hn).2.1; omega) k)
end
theorem zr5 {n : Nat} {s : Ses} (h : Live n s) (hn : n <= 100) (p : Ky) (hp : OpOK p.o) {i j : Nat} (hij : i ≠ j) :
  DC prog 26 [.ptr i 0, .ptr j 0, zk4 p] i j (edO s) (edO (z77 s p)) (stO s) (stO (z77 s p)) (.bool true) := by
 refine zrf (k := 1) (ds := [.ptr 0 0, .ptr 1 0, zk4 p]) (by simp only [okD.okL, zkb _ (zgi p)]; rfl) rfl (zjj s) (zjj _) (zjk s) (zjk _)
  (z0z [8000002, 4000014, 9000013, 4000018, 9000017, 600014, 900000, 600018, 900001] func26 rfl (by decide +kernel) rfl ?_) hij (by simp only [List.map_cons, List.map_nil, zcy _ _ (zgi p)]; rfl)
 show awp _ _ (Code.seq _ _) _ _
 rw [show Tryz.f26.results.toList = [.tmp 6] from rfl]
 have hkk : (za9 p)[0]? = some (.int .u8 p.k) := rfl
 by_cases k0 : p.k = 0
 ·have hps : z77 s p = (z1r s p.o).2 := by unfold z77; rw [if_pos k0]
  rw [hps]
  have t1 := h.tcApply hn hp 0
  have t2 := h.tcApplyR hn hp 1
  repeat' (first | refine nxt ?_ | ((first | refine zqh fun K J => ?_ | refine zqe (by decide +kernel) fun K J => ?_ | ((refine zfj (t1) ?_ rfl rfl rfl (by decide) ?_ ?_); (focus ((simp (disch := omega) only [go_sem, Nat.reduceBEq]); done)); (focus (((simp (disch := omega) only [go_sem, ↓reduceIte, Nat.reduceLeDiff]); omega)))) | ((refine zfj (t2) ?_ rfl rfl rfl (by decide) ?_ ?_); (focus ((simp (disch := omega) only [go_sem, Nat.reduceBEq]); done)); (focus (((simp (disch := omega) only [go_sem, ↓reduceIte, Nat.reduceLeDiff]); omega))))); (simp (disch := omega) only [go_sem, Nat.reduceBEq, Nat.reduceEqDiff, ↓reduceIte, reduceCtorEq, Nat.reduceAdd, Nat.reduceLeDiff, hkk, zm0, z70, k0, zk4])) | ((refine zqm _ rfl (fun hc => ?_) (fun hc => ?_)) <;> (first | (cases hc; done) | ((try simp only [] at hc); (try omega)))) | refine zqu (by (simp (disch := omega) only [go_sem, Nat.reduceBEq]); rfl) rfl ?_ | (refine J _ ?_; clear J K))
  refine ⟨⟨_, z02 0 rfl, ?_⟩, ?_, ?_⟩
  ·first | exact Le.refl _ | (simp; exact Le.refl _)
  ·first | rfl | ((simp (disch := omega) only [go_sem, Nat.reduceBEq, Nat.reduceBeqDiff, Nat.reduceEqDiff, ↓reduceIte, reduceCtorEq, Nat.reduceAdd, Nat.reduceMul, Nat.reduceLeDiff, Nat.reduceLT, Int.reduceLT, Int.reduceLE, Int.reduceEq]))
  ·first | rfl | ((simp (disch := omega) only [go_sem, Nat.reduceBEq, Nat.reduceBeqDiff, Nat.reduceEqDiff, ↓reduceIte, reduceCtorEq, Nat.reduceAdd, Nat.reduceMul, Nat.reduceLeDiff, Nat.reduceLT, Int.reduceLT, Int.reduceLE, Int.reduceEq]))
 by_cases k1 : p.k = 1
 ·have hps : z77 s p = (z5i s).2 := by unfold z77; rw [if_neg k0, if_pos k1]
  rw [hps]
  have t1 := h.tcUndo hn 0
  have t2 := h.tcUndoR hn 1
  repeat' (first | refine nxt ?_ | ((first | refine zqh fun K J => ?_ | ((refine z55 (t1) ?_ ?_ ?_); (focus ((simp (disch := omega) only [go_sem, Nat.reduceBEq]); done)); (focus (((simp (disch := omega) only [go_sem]); done)))) | ((refine z55 (t2) ?_ ?_ ?_); (focus ((simp (disch := omega) only [go_sem, Nat.reduceBEq]); done)); (focus (((simp (disch := omega) only [go_sem]); done))))); (simp (disch := omega) only [go_sem, Nat.reduceBEq, ↓reduceIte, reduceCtorEq, Nat.reduceAdd, Int.reduceEq, hkk, k1, zk4])) | ((refine zqm _ rfl (fun hc => ?_) (fun hc => ?_)) <;> (first | (cases hc; done) | ((try simp only [] at hc); (try omega)))) | refine zqu (by (simp (disch := omega) only [go_sem, Nat.reduceBEq]); rfl) rfl ?_ | (refine J _ ?_; clear J K))
  refine ⟨⟨_, z02 0 rfl, ?_⟩, ?_, ?_⟩
  ·first | exact Le.refl _ | (simp; exact Le.refl _)
  ·first | rfl | ((simp (disch := omega) only [go_sem, Nat.reduceBEq, Nat.reduceBeqDiff, Nat.reduceEqDiff, ↓reduceIte, reduceCtorEq, Nat.reduceAdd, Nat.reduceMul, Nat.reduceLeDiff, Nat.reduceLT, Int.reduceLT, Int.reduceLE, Int.reduceEq]))
  ·first | rfl | ((simp (disch := omega) only [go_sem, Nat.reduceBEq, Nat.reduceBeqDiff, Nat.reduceEqDiff, ↓reduceIte, reduceCtorEq, Nat.reduceAdd, Nat.reduceMul, Nat.reduceLeDiff, Nat.reduceLT, Int.reduceLT, Int.reduceLE, Int.reduceEq]))
 by_cases k2 : p.k = 2
 ·have hps : z77 s p = (z7f s).2 := by unfold z77; rw [if_neg k0, if_neg k1, if_pos k2]
  rw [hps]
  have t1 := h.tcRedo hn 0
  have t2 := h.tcRedoR hn 1
  repeat' (first | refine nxt ?_ | ((first | refine zqh fun K J => ?_ | ((refine z55 (t1) ?_ ?_ ?_); (focus ((simp (disch := omega) only [go_sem, Nat.reduceBEq]); done)); (focus (((simp (disch := omega) only [go_sem]); done)))) | ((refine z55 (t2) ?_ ?_ ?_); (focus ((simp (disch := omega) only [go_sem, Nat.reduceBEq]); done)); (focus (((simp (disch := omega) only [go_sem]); done))))); (simp (disch := omega) only [go_sem, Nat.reduceBEq, ↓reduceIte, reduceCtorEq, Nat.reduceAdd, Int.reduceEq, hkk, k2, zk4])) | ((refine zqm _ rfl (fun hc => ?_) (fun hc => ?_)) <;> (first | (cases hc; done) | ((try simp only [] at hc); (try omega)))) | refine zqu (by (simp (disch := omega) only [go_sem, Nat.reduceBEq]); rfl) rfl ?_ | (refine J _ ?_; clear J K))
  refine ⟨⟨_, z02 0 rfl, ?_⟩, ?_, ?_⟩
  ·first | exact Le.refl _ | (simp; exact Le.refl _)
  ·first | rfl | ((simp (disch := omega) only [go_sem, Nat.reduceBEq, Nat.reduceBeqDiff, Nat.reduceEqDiff, ↓reduceIte, reduceCtorEq, Nat.reduceAdd, Nat.reduceMul, Nat.reduceLeDiff, Nat.reduceLT, Int.reduceLT, Int.reduceLE, Int.reduceEq]))
  ·first | rfl | ((simp (disch := omega) only [go_sem, Nat.reduceBEq, Nat.reduceBeqDiff, Nat.reduceEqDiff, ↓reduceIte, reduceCtorEq, Nat.reduceAdd, Nat.reduceMul, Nat.reduceLeDiff, Nat.reduceLT, Int.reduceLT, Int.reduceLE, Int.reduceEq]))
 have hps : z77 s p = s := by unfold z77; rw [if_neg k0, if_neg k1, if_neg k2]
 rw [hps]
 repeat' (first | refine nxt ?_ | ((refine zqh fun K J => ?_); (simp (disch := omega) only [go_sem, Nat.reduceBEq, ↓reduceIte, reduceCtorEq, Nat.reduceAdd, hkk, k0, k1, k2, zk4])) | ((refine zqm _ rfl (fun hc => ?_) (fun hc => ?_)) <;> (first | (cases hc; done) | ((try simp only [] at hc); (try omega)))) | refine zqu (by (simp (disch := omega) only [go_sem, Nat.reduceBEq]); rfl) rfl ?_ | (refine J _ ?_; clear J K))
 refine ⟨⟨_, z02 0 rfl, Le.refl _⟩, ?_, ?_⟩
 ·first | rfl | ((simp (disch := omega) only [go_sem, Nat.reduceBEq, Nat.reduceBeqDiff, Nat.reduceEqDiff, ↓reduceIte, reduceCtorEq, Nat.reduceAdd, Nat.reduceMul, Nat.reduceLeDiff, Nat.reduceLT, Int.reduceLT, Int.reduceLE, Int.reduceEq]))
 ·first | rfl | ((simp (disch := omega) only [go_sem, Nat.reduceBEq, Nat.reduceBeqDiff, Nat.reduceEqDiff, ↓reduceIte, reduceCtorEq, Nat.reduceAdd, Nat.reduceMul, Nat.reduceLeDiff, Nat.reduceLT, Int.reduceLT, Int.reduceLE, Int.reduceEq]))
theorem zo6 {n : Nat} {s : Ses} (h : Live n s) (hn : n <= 100) {i j : Nat} (hij : i ≠ j) :
  ∀ H nx, i < nx -> j < nx -> H i = some (edO s) -> H j = some (stO s) -> RC prog 25 [.ptr i 0, .ptr j 0] H nx (.bool true) := by
 obtain ⟨z1, z2, z3⟩ := h.dsz hn
 obtain ⟨y1, y2, y3⟩ := z21 h.ok.st
 have hil := z2c s.draft
 have hfl := List.length_filter_le zef (z0i s.draft)
 have t0 := h.draftR hn 1
 have t1 := h.rcDraft hn 0
 have t2 := h.rcBase hn 0
 have t3 := h.rcLog hn 0
 have t4 := h.rcNew hn 0
 have c1 := zfv s.draft z1 s.draft z1
 have c2 := zfv s.base y1 s.base y1
 have c3 := pc_SameO s.dn (by have := h.len; omega) fun o ho => ⟨(h.opsD o ho).sz.ws, (h.opsD o ho).sz.un⟩
 have c4 := pc_Added s.draft z1 (by omega)
 have c5 := pc_Ids ((z0i s.draft).filter zef) ((z0i s.draft).filter zef) (by omega) (by omega)
 rw [decide_eq_true rfl] at c1 c2 c5
 refine DC_rc (zrf (k := 1) (ds := [.ptr 0 0, .ptr 1 0]) rfl rfl (zjj s) (zjj s) (zjk s) (zjk s) (z0z [3000014, 3000037] func25 rfl (by decide +kernel) rfl ?_) hij rfl)
 show awp _ _ (Code.seq _ _) _ _
 rw [show Tryz.f25.results.toList = [.tmp 4] from rfl]
 repeat' (first | ((first | refine zqh fun K J => ?_ | refine zqe (by decide +kernel) fun K J => ?_ | ((refine z0w (t0 _ _ ?_ ?_) ?_); (focus (((simp (disch := omega) only [go_sem, Nat.reduceLT]); done))); (focus ((simp (disch := omega) only [go_sem, Nat.reduceBEq, stO]); done))) | ((refine zfi (t1 _ _ ?_ ?_) rfl ?_); (focus (((simp (disch := omega) only [go_sem]); done))); (focus ((simp (disch := omega) only [go_sem, Nat.reduceBEq]); done))) | ((refine zfi (t2 _ _ ?_ ?_) rfl ?_); (focus (((simp (disch := omega) only [go_sem]); done))); (focus ((simp (disch := omega) only [go_sem, Nat.reduceBEq]); done))) | ((refine zfi (t3 _ _ ?_ ?_) rfl ?_); (focus (((simp (disch := omega) only [go_sem]); done))); (focus ((simp (disch := omega) only [go_sem, Nat.reduceBEq]); done))) | ((refine zfi (t4 _ _ ?_ ?_) rfl ?_); (focus (((simp (disch := omega) only [go_sem]); done))); (focus ((simp (disch := omega) only [go_sem, Nat.reduceBEq]); done))) | refine zqt (c1) ?_ | refine zqt (c2) ?_ | refine zqt (c3) ?_ | refine zqt (c4) ?_ | refine zqt (c5) ?_); (simp (disch := omega) only [go_sem, Nat.reduceBEq, Nat.reduceEqDiff, ↓reduceIte, reduceCtorEq, Nat.reduceAdd, Nat.reduceLeDiff, Nat.reduceLT, z0g, z20, z15, stO])) | refine nxt ?_ | refine zqu (by (simp (disch := omega) only [go_sem, Nat.reduceBEq]); rfl) rfl ?_ | (refine J _ ?_; clear J K))
 refine ⟨⟨_, z02 0 rfl, Le.refl _⟩, ?_, ?_⟩
 ·first | rfl | ((simp (disch := omega) only [go_sem, Nat.reduceBEq, Nat.reduceBeqDiff, Nat.reduceEqDiff, ↓reduceIte, reduceCtorEq, Nat.reduceAdd, Nat.reduceMul, Nat.reduceLeDiff, Nat.reduceLT, Int.reduceLT, Int.reduceLE, Int.reduceEq]))
 ·first | rfl | ((simp (disch := omega) only [go_sem, Nat.reduceBEq, Nat.reduceBeqDiff, Nat.reduceEqDiff, ↓reduceIte, reduceCtorEq, Nat.reduceAdd, Nat.reduceMul, Nat.reduceLeDiff, Nat.reduceLT, Int.reduceLT, Int.reduceLE, Int.reduceEq]))
end
section
open Abs Facts Tr
attribute [local irreducible] awp
set_option maxRecDepth 100000
namespace Tr
def exB : T := .mk Idv.zero 0 ByteArray.empty [] [] [.mk ⟨1, 0, 1⟩ 2 ⟨#[49]⟩ [] [⟨⟨#[97]⟩, ⟨1, 0, 0⟩⟩, ⟨⟨#[98]⟩, ⟨1, 0, 1⟩⟩] []]
def exO : Deed := ⟨0, 0, ⟨1, 0, 1⟩, Idv.zero, [⟨#[99]⟩, ⟨#[98]⟩], ByteArray.empty, T.zero⟩
def exB2 : T := .mk Idv.zero 0 ByteArray.empty [] [] [.mk ⟨1, 0, 1⟩ 2 ⟨#[49]⟩ [] [⟨⟨#[99]⟩, Idv.zero⟩, ⟨⟨#[98]⟩, ⟨1, 0, 1⟩⟩] []]
end Tr
theorem zxg : PC prog 31 [] (z0g exB) := by
 refine z14 3 rfl (z01 _) (z0z [] func31 rfl (by decide +kernel) rfl ?_)
 show awp _ _ (Code.seq _ _) _ _
 rw [show Tryz.f31.results.toList = [.cell 0 27] from rfl]
 repeat' (first | ((refine zqh fun K J => ?_); (simp (disch := omega) only [go_sem, Nat.reduceBEq, ↓reduceIte, reduceCtorEq, Nat.reduceAdd, Nat.reduceMul, Nat.reduceLeDiff])) | refine nxt ?_ | refine zqu (by (simp (disch := omega) only [go_sem, Nat.reduceBEq, ↓reduceIte, Nat.reduceAdd, Nat.reduceLeDiff]); rfl) rfl ?_ | (refine J _ ?_; clear J K))
 refine z08 ?_ ?_
 ·rfl
 rw [z0g, z0k]
 refine Le.agg ⟨Le.refl _, Le.refl _, Le.refl _, Le.refl _, Le.refl _, Le.nil 4, Le.nil 4, Le.rslL ⟨?_, trivial⟩, trivial⟩
 rw [z0g, z0k]
 exact Le.agg ⟨Le.refl _, Le.refl _, Le.refl _, Le.refl _, Le.refl _, Le.nil 4, Le.rsl, Le.nil 8, trivial⟩
theorem ex_run : doE exB exO 0 = 0 /\ doT exB exO 0 = exB2 := by decide +kernel
theorem AC_le {P : Program} {f : FuncId} {ds es : List D} {H : HM} {nx : Nat} {K : D -> HM -> Nat -> Prop} (h : AC P f es H nx K) (hl : LeL ds es) : AC P f ds H nx K :=
 ⟨h.1, fun s w vs h1 h2 h3 h4 => h.2 s w vs h1 h2 h3 (z7d hl h4)⟩
theorem TC_le {P : Program} {f : FuncId} {ds es : List D} {k : Nat} {o o' : HObj} {r : D} (h : TC P f es k o o' r) (hl : LeL ds es) : TC P f ds k o o' r := fun H nx a b => AC_le (h H nx a b) hl
theorem idx_0 (a : D) (l : List D) : zun (a :: l) 0 = some a := by unfold zun; simp
theorem idx_1 (a b : D) (l : List D) : zun (a :: b :: l) 1 = some b := by unfold zun; simp; omega
theorem ztu : PC prog 10 [] (.bool true) := by
 obtain ⟨x1, x2⟩ := ex_run
 have hst : standsT exB = true := by decide +kernel
 have hz : szB exB = true := (z21 hst).1
 have hop : OpOK exO := ⟨by decide +kernel, by decide, by decide⟩
 have l0 : Live 0 ⟨exB, [], []⟩ := zlb hst
 have ap : z1r ⟨exB, [], []⟩ exO = (0, ⟨exB, [exO], []⟩) := by
  unfold z1r
  rw [if_pos (show doE (Ses.draft ⟨exB, [], []⟩) exO (z3a []) = 0 from x1)]; rfl
 have l1 : Live 1 ⟨exB, [exO], []⟩ := by have := l0.apply hop; rwa [ap] at this
 have l2 : Live 1 ⟨exB, [], [exO]⟩ := l1.undo
 have d1 : Ses.draft ⟨exB, [exO], []⟩ = exB2 := x2
 have c1 := zxg
 have c2 := zz3 exB hst (by decide +kernel)
 have c3 := TC_le (ds := [.ptr 0 0, .agg [.int .i64 0, .int .i64 0, .int .i64 1, .int .i64 0, .int .i64 1, .int .i64 0, .int .i64 0, .int .i64 0, .rsl true 1 [.str ⟨#[99]⟩, .str ⟨#[98]⟩], .str ByteArray.empty, .int .i64 0, .int .i64 0, .int .i64 0, .int .i64 0, .str ByteArray.empty, .nil, .nil, .nil]]) (l0.tcApply (by omega) hop 0) (by
  refine ⟨Le.refl _, ?_, trivial⟩
  rw [z39, zc8]
  exact Le.agg ⟨Le.refl _, Le.refl _, Le.refl _, Le.refl _, Le.refl _, Le.refl _, Le.refl _, Le.refl _, Le.rsl, Le.refl _, Le.refl _, Le.refl _, Le.refl _, Le.refl _, Le.refl _, Le.nil 4, Le.nil 4, Le.nil 8, trivial⟩)
 rw [ap] at c3
 have c4 := l1.rcDraft (by omega) 0
 rw [d1] at c4
 have c5 := l1.tcUndo (by omega) 0
 rw [show z5i ⟨exB, [exO], []⟩ = (true, ⟨exB, [], [exO]⟩) from rfl] at c5
 have c6 := l2.rcDraft (by omega) 0
 rw [show Ses.draft ⟨exB, [], [exO]⟩ = exB from rfl] at c6
 have c7 := zfv exB hz exB hz
 rw [decide_eq_true rfl] at c7
 have c8 := l2.tcRedo (by omega) 0
 rw [show z7f ⟨exB, [], [exO]⟩ = (true, ⟨exB, [exO], []⟩) from rfl] at c8
 have c10 := l1.tcRedo (by omega) 0
 rw [show z7f ⟨exB, [exO], []⟩ = (false, ⟨exB, [exO], []⟩) from rfl] at c10
 have hB2 : z0a exB2 = [.int .i64 0, .int .i64 0, .int .i64 0, .int .i64 0, .str ByteArray.empty, .rsl false 4 [], .rsl false 4 [], .rsl false 8 [.agg [.int .i64 1, .int .i64 0, .int .i64 1, .int .i64 2, .str ⟨#[49]⟩, .rsl false 4 [], .rsl false 4 [.agg [.str ⟨#[99]⟩, .int .i64 0, .int .i64 0, .int .i64 0], .agg [.str ⟨#[98]⟩, .int .i64 1, .int .i64 0, .int .i64 1]], .rsl false 8 []]]] := rfl
 refine z14 1 rfl rfl (z0z [] func10 rfl (by decide +kernel) rfl ?_)
 show awp _ _ (Code.seq _ _) _ _
 repeat' (first | refine nxt ?_ | ((first | refine zqh fun K J => ?_ | refine zqs (c1) ?_ | refine z6n (c2) ?_ | ((refine z55 (c3) ?_ ?_ ?_); (focus ((simp (disch := omega) only [go_sem]); done)); (focus (((simp (disch := omega) only [go_sem, Nat.reduceLT]); done)))) | ((refine z0w (c4 _ _ ?_ ?_) ?_); (focus (((simp (disch := omega) only [go_sem, Nat.reduceLT]); done))); (focus ((simp (disch := omega) only [go_sem]); done))) | ((refine z55 (c5) ?_ ?_ ?_); (focus ((simp (disch := omega) only [go_sem]); done)); (focus (((simp (disch := omega) only [go_sem, Nat.reduceLT]); done)))) | ((refine z0w (c6 _ _ ?_ ?_) ?_); (focus (((simp (disch := omega) only [go_sem, Nat.reduceLT]); done))); (focus ((simp (disch := omega) only [go_sem]); done))) | refine zqs (c7) ?_ | ((refine z55 (c8) ?_ ?_ ?_); (focus ((simp (disch := omega) only [go_sem]); done)); (focus (((simp (disch := omega) only [go_sem, Nat.reduceLT]); done)))) | ((refine z55 (c10) ?_ ?_ ?_); (focus ((simp (disch := omega) only [go_sem]); done)); (focus (((simp (disch := omega) only [go_sem, Nat.reduceLT]); done))))); (simp (disch := omega) only [go_sem, Nat.reduceBEq, ↓reduceIte, reduceCtorEq, Nat.reduceAdd, Nat.reduceLeDiff, z0g, hB2, idx_0])) | (refine zqd _ rfl ?_ ?_ <;> intro hc <;> (first | (cases hc; done) | ((try simp only [] at hc); (try omega)))) | refine zqu (by simp only [go_sem]; rfl) rfl ?_ | (refine J _ ?_; clear J K) | (refine zqf (fun hb => ?_) (fun hb => ?_) <;> (have hb2 := hb; try simp only [z07] at hb2) <;> ((first | have F := eq_false hb2 | have F := eq_true hb2); (simp (disch := omega) only [go_sem, Nat.reduceBEq, ↓reduceIte, reduceCtorEq, Nat.reduceAdd, Nat.reduceLeDiff, F, idx_0, idx_1]); clear hb F; (try omega))))
 all_goals exact z03 rfl
def ses0 (t : T) : Ses := ⟨t, [], []⟩
theorem zmo (a b c d e f g h i j : D) (t : T) : z17 [a, b, c, d, e, f, g, h, i, j] 0 (z0a t) = z0a t ++ [i, j] := by rw [z0k]; rfl
theorem le_state (t : T) : LeL (z0a t ++ [.nil, .nil]) (z31 (ses0 t)) := by
 rw [z3u, z0k]
 exact ⟨Le.refl _, Le.refl _, Le.refl _, Le.refl _, Le.refl _, Le.refl _, Le.refl _, Le.refl _, Le.nil 18, Le.nil 18, trivial⟩
theorem zrc {u : T} (hs : standsT u = true) {l : List Ky} (ho : ∀ p ∈ l, OpOK p.o) (i : Nat) : Live (0 + (l.take i).length) (zlc (ses0 u) (l.take i)) :=
 Live.run (l.take i) (zlb hs) fun p hp => ho p (List.mem_of_mem_take hp)
theorem zmp (s : Ses) (l : List Ky) {i : Nat} (hi : i < l.length) : zlc s (l.take (i + 1)) = z77 (zlc s (l.take i)) l[i] := by
 rw [List.take_succ_eq_append_getElem hi, zld]
theorem oc_typed (u : T) (hs : standsT u = true) (hb : (z0i u).any zef = false) (l : List Ky) (hl : l.length <= 16) (ho : ∀ p ∈ l, OpOK p.o) :
  OC prog 19 [z0g u, z5q l] [edO (zlc (ses0 u) l), stO (zlc (ses0 u) l)] (.tup [.ptr 0 0, .ptr 1 0, .bool true]) := by
 have c1 := zz3 u hs hb
 refine z91 (by simp only [pureD.pureL, z01, zdz, Bool.and_self]) rfl (fun o h => by
  simp only [List.mem_cons, List.mem_nil_iff, or_false] at h
  rcases h with rfl | rfl
  ·exact z2a _
  ·exact zbs _) (z0z [] func19 rfl (by decide +kernel) rfl ?_)
 show awp _ _ (Code.seq _ _) _ _
 rw [show Tryz.f19.results.toList = [.tmp 4, .tmp 5, .tmp 6] from rfl]
 repeat' (first | ((first | refine z1j (N := 2) rfl fun K J => ?_ | refine z6n (c1) ?_); (simp (disch := omega) only [go_sem, Nat.reduceBEq, ↓reduceIte, Nat.reduceAdd, Nat.reduceLeDiff, z0g])) | (refine J _ ?_; clear J K))
 refine z1f fun K J => ?_
 (try (simp (disch := omega) only [go_sem, Nat.reduceBEq, ↓reduceIte, Nat.reduceAdd, Nat.reduceLeDiff, zmo])); repeat' skip
 refine J _ _ (z61 (b := 2) (e := 61) (cs' := z31 (ses0 u)) (by (simp (disch := omega) only [go_sem, Nat.reduceBEq])) (le_state u)) ?_
 clear J K
 repeat' (first | refine nxt ?_ | ((refine zqh fun K J => ?_); (simp (disch := omega) only [go_sem, Nat.reduceBEq, ↓reduceIte])) | (refine zqd _ rfl ?_ ?_ <;> intro hc <;> (first | (cases hc; done) | ((try simp only [] at hc); (try omega)))) | (refine J _ ?_; clear J K))
 (refine z3c (fun U st => ∃ (i : _), U = l.length - i /\ st.t 1 = z5q l /\ st.t 7 = .ptr 1 0 /\ st.t 9 = .ptr 2 0 /\ st.t 10 = .int .i64 i /\ st.H 1 = some (edO (zlc (ses0 u) (l.take i))) /\ st.H 2 = some (stO (zlc (ses0 u) (l.take i))) /\ (i <= l.length) /\ (3 <= st.nx)) ?_ ?_); rotate_left; (rintro U st ⟨i, rfl, q1, q7, q9, q10, qH1, qH2, qp0, qp1⟩); rotate_left
 ·(refine ⟨_, 0, rfl, ?_⟩); (simp (disch := omega) only [go_sem, Nat.reduceBEq, Nat.reduceLeDiff, true_and, and_true, and_self, Int.natCast_zero, List.take_zero])
  exact ⟨rfl, rfl⟩
 by_cases hi : i < l.length
 ·have hlv := zrc hs ho i
  have hp := ho _ (List.getElem_mem hi)
  have c2 := zr5 hlv (by rw [List.length_take]; omega) l[i] hp (i := 1) (j := 2) (by decide)
  rw [<- zmp _ _ hi] at c2
  repeat' (first | refine nxt ?_ | ((first | refine zqh fun K J => ?_ | refine zqr fun K J => ?_ | ((refine zs7 (c2) ?_ ?_ ?_ ?_ ?_); (focus ((simp (disch := omega) only [go_sem, qH1]); done)); (focus ((simp (disch := omega) only [go_sem, qH2]); done)); (focus (((simp (disch := omega) only [go_sem]); omega))); (focus (((simp (disch := omega) only [go_sem]); omega))))); (simp (disch := omega) only [go_sem, Nat.reduceBEq, ↓reduceIte, reduceCtorEq, Nat.reduceAdd, q1, q7, q9, q10, z5q, zk4, z70])) | ((first | refine zqd _ rfl (fun hc => ?_) (fun hc => ?_) | refine zqm _ rfl (fun hc => ?_) (fun hc => ?_)) <;> (first | (cases hc; done) | ((try simp only [z07] at hc); (try omega)))) | (refine J _ ?_; clear J K))
  (refine Exists.intro _ (And.intro ?_ ⟨i + 1, rfl, ?_⟩)); rotate_left; (simp (disch := omega) only [go_sem, Nat.reduceBEq, q1, q7, q9, q10, qH1, qH2, true_and, Int.natCast_add, Int.natCast_one]); rotate_left
  all_goals (repeat' (omega))
 ·have hie : i = l.length := by omega
  subst hie
  rw [List.take_length] at qH1 qH2
  repeat' (first | refine nxt ?_ | ((refine zqh fun K J => ?_); (simp (disch := omega) only [go_sem, Nat.reduceBEq, ↓reduceIte, q1, q7, q9, q10, z5q])) | (refine zqd _ rfl ?_ ?_ <;> intro hc <;> (((try simp only [z07] at hc); (try omega)))) | refine zqz ?_ | refine zqu (by (simp (disch := omega) only [go_sem, Nat.reduceBEq]); rfl) rfl ?_ | (refine J _ ?_; clear J K))
  refine ⟨fun j => 1 + j, fun i j _ _ h => Nat.add_left_cancel h, ?_, fun j hj => ?_⟩
  ·(simp (disch := omega) only [go_sem, Nat.reduceAdd, renD])
  ·match j, hj with
   | 0, _ => (simp (disch := omega) only [go_sem, qH1])
   | 1, _ => (simp (disch := omega) only [go_sem, Nat.reduceAdd, qH2])
end
section
open Abs Facts Tr
namespace Tr
def z9x (s : Ses) (j : Nat) : Ses := ⟨s.base, s.dn.take (s.dn.length - j), s.dn.drop (s.dn.length - j) ++ s.un⟩
theorem zv0 (s : Ses) : z9x s 0 = s := by unfold z9x; simp
theorem zzo (s : Ses) : z9x s s.dn.length = ⟨s.base, [], s.dn ++ s.un⟩ := by unfold z9x; simp
theorem back_eq (s : Ses) {j : Nat} (h : j < s.dn.length) : ∃ o, z9x s j = ⟨s.base, s.dn.take (s.dn.length - (j + 1)) ++ [o], s.dn.drop (s.dn.length - j) ++ s.un⟩ /\
  z9x s (j + 1) = ⟨s.base, s.dn.take (s.dn.length - (j + 1)), o :: (s.dn.drop (s.dn.length - j) ++ s.un)⟩ := by
 have O : s.dn.length - (j + 1) < s.dn.length := by omega
 have h1 := List.take_succ_eq_append_getElem O
 have h2 : s.dn.drop (s.dn.length - (j + 1)) = s.dn[s.dn.length - (j + 1)] :: s.dn.drop (s.dn.length - (j + 1) + 1) := List.drop_eq_getElem_cons O
 rw [show s.dn.length - (j + 1) + 1 = s.dn.length - j by omega] at h1 h2
 refine ⟨s.dn[s.dn.length - (j + 1)], ?_, ?_⟩
 ·unfold z9x; rw [h1]
 ·unfold z9x; rw [h2]; rfl
theorem zv1 (s : Ses) {j : Nat} (h : j < s.dn.length) : z5i (z9x s j) = (true, z9x s (j + 1)) := by
 obtain ⟨o, e1, e2⟩ := back_eq s h
 rw [e1, e2]; unfold z5i; simp
theorem zzp (b : T) (u : List Deed) : z5i ⟨b, [], u⟩ = (false, ⟨b, [], u⟩) := rfl
end Tr
theorem Live.back {n : Nat} {s : Ses} (h : Live n s) (j : Nat) : Live n (z9x s j) := by
 have e : (z9x s j).dn ++ (z9x s j).un = s.dn ++ s.un := by
  show s.dn.take _ ++ (s.dn.drop _ ++ s.un) = _
  rw [<- List.append_assoc, List.take_append_drop]
 refine ⟨⟨h.ok.st, ?_⟩, fun o ho => h.ops o (by rw [<- e]; exact ho), ?_⟩
 ·rw [e]; exact h.ok.ok
 ·have h3 := h.len
  have h4 := congrArg List.length e
  simp only [List.length_append] at h4
  omega
end
section
open Abs Facts Tr
attribute [local irreducible] awp
set_option maxRecDepth 100000
theorem zyw : ([Value.int .i64 0, .int .i64 0, .int .i64 0, .int .i64 0, .string { data := #[] }, .slice none 0 0, .slice none 0 0, .slice none 0 0].all fun x => x.oneCell') = true := rfl
theorem zua {α : Type} : ∀ (A B C : List α), B.length = C.length -> z17 (A ++ B) A.length C = A ++ C := by
 intro A B C
 induction C generalizing A B with
 | nil => intro h; have : B = [] := List.eq_nil_of_length_eq_zero h; subst this; rfl
 | cons c C ih =>
  intro h
  cases B with
  | nil => simp at h
  | cons b B =>
   have h1 : (A ++ b :: B).set A.length c = (A ++ [c]) ++ B := by rw [List.set_append_right _ _ (Nat.le_refl _), Nat.sub_self]; simp
   show z17 ((A ++ b :: B).set A.length c) (A.length + 1) C = _
   rw [h1]
   have := ih (A ++ [c]) B (by simpa using h)
   rw [List.length_append, List.length_singleton] at this
   rw [this, List.append_assoc]; rfl
theorem Le_full {sz : Nat} {els : List D} (h : els ≠ []) : Le (.rsl false sz els) (.rsl true sz els) := fun s v hr => by
 simp only [rel] at hr ⊢
 rcases hr with ⟨_, he, _⟩ | hr
 ·exact (h he).elim
 ·exact .inr hr
theorem gc_Clone (s : Ses) (hz : ∀ t ∈ trees s.base (s.dn ++ s.un), szB t = true) (ho : ∀ o ∈ s.dn ++ s.un, o.words.length <= 1000000 /\ szB o.unit = true) (hl : s.dn.length + s.un.length <= 1000) (k : Nat) :
  ∀ H nx, k < nx -> H k = some (edO s) -> AC prog 24 [.ptr k 0] H nx fun r' H' nx' => r' = renD (fun j => nx + j) (.ptr 0 0) /\ H' = zjr H nx [edO s] /\ nx' = nx + [edO s].length := by
 have htl : (trees s.base (s.dn ++ s.un)).length = s.dn.length + s.un.length + 1 := by rw [z7e, List.length_append]
 have hdl : (s.dn ++ s.un).length = s.dn.length + s.un.length := List.length_append
 obtain ⟨TL, hTL⟩ : ∃ TL, TL = trees s.base (s.dn ++ s.un) := ⟨_, rfl⟩
 obtain ⟨OL, hOL⟩ : ∃ OL, OL = s.dn ++ s.un := ⟨_, rfl⟩
 have hce : z13 s = [.rsl true 8 (TL.map z0g), z20 OL, .int .i64 s.dn.length] := by rw [hTL, hOL]; rfl
 rw [<- hTL] at hz htl
 rw [<- hOL] at ho hdl
 refine fun H nx O hH => (GC_frame (ds := [.ptr 0 0]) (r := .ptr 1 0) rfl rfl (show z2t (edO s) = true from z2a s) (show z2t (edO s) = true from z2a s) ?_ k rfl H nx O hH).mono fun r' H' n' ⟨e1, e2, e3⟩ => ⟨e1, e2, e3⟩
 refine (z0z [8000004, 3000025, 3000026, 3000027, 5000028, 3000049, 3000050, 5000051, 600032, 900002, 600034, 900001] func24 rfl (by decide +kernel) rfl ?_)
 show awp _ _ (Code.seq _ _) _ _
 rw [show Tryz.f24.results.toList = [.tmp 2] from rfl]
 unfold edO
 repeat' (first | ((refine z1j (N := 1) rfl fun K J => ?_); (simp (disch := omega) only [go_sem, hce])) | (refine J _ ?_; clear J K))
 refine z1f fun K J => ?_
 (simp (disch := omega) only [go_sem, Nat.reduceBEq, ↓reduceIte, reduceCtorEq, Nat.reduceAdd, Nat.reduceLeDiff])
 refine J _ _ (SealTo.trans (zem (b := 1) (off := 0) (e := 74) 27 (by (simp (disch := omega) only [go_sem, Nat.reduceBEq]); rfl) rfl) (zem (b := 1) (off := 1) (e := 74) 32 (by (simp (disch := omega) only [go_sem, Nat.reduceBEq]); rfl) rfl)) ?_
 clear J K
 repeat' (first | refine nxt ?_ | ((refine zqh fun K J => ?_); (simp (disch := omega) only [go_sem, Nat.reduceBEq, ↓reduceIte, reduceCtorEq, Nat.reduceAdd, List.set_cons_succ, List.set_cons_zero])) | (refine J _ ?_; clear J K))
 (refine z3c (fun U st => ∃ (i : _), U = TL.length - i /\ st.t 0 = .ptr 0 0 /\ st.t 3 = .ptr 1 0 /\ st.t 17 = .rsl true 8 (TL.map z0g) /\ st.t 18 = .int .i64 TL.length /\ st.t 19 = .int .i64 i /\ st.H 0 = some (.box 74 (z13 s)) /\ st.H 1 = some (.box 74 [.osl 2 i, .osl 3 0, .int .i64 s.dn.length]) /\ st.H 2 = some (.row 27 i ((TL.take i).flatMap z0a)) /\ st.H 3 = some (.row 32 0 []) /\ (i <= TL.length) /\ (4 <= st.nx)) ?_ ?_); rotate_left; (rintro U st ⟨i, rfl, q0, q3, q17, q18, q19, qH0, qH1, qH2, qH3, qp0, qp1⟩); rotate_left
 ·(refine ⟨_, 0, rfl, ?_⟩); (simp (disch := omega) only [go_sem, Nat.reduceBEq, Nat.reduceLeDiff, and_self, Int.natCast_zero, List.flatMap_nil, hce])
  all_goals (repeat' skip)
 by_cases hi : i < TL.length
 ·have c1 := z45 TL[i] (hz _ (List.getElem_mem hi))
  have htk := List.take_succ_eq_append_getElem hi
  have hfl : ((TL.take i).flatMap z0a).length = i * 8 := by rw [z43 (f := z0a) (sz := 8) z0c, List.length_take, Nat.min_eq_left (by omega)]
  have hst : ∀ a b c d e f g h : D, z17 ((TL.take i).flatMap z0a ++ [a, b, c, d, e, f, g, h]) (i * 8) (z0a TL[i]) = (TL.take (i + 1)).flatMap z0a := fun a b c d e f g h => by
   have := zua ((TL.take i).flatMap z0a) [a, b, c, d, e, f, g, h] (z0a TL[i]) (by rw [z0c]; rfl)
   rw [hfl] at this
   rw [this, htk, List.flatMap_append, List.flatMap_singleton]
  repeat' (first | ((first | refine zqh fun K J => ?_ | refine zqr fun K J => ?_ | refine zqq (by decide +kernel) fun K J => ?_ | refine zqt (c1) ?_); (simp (disch := omega) only [go_sem, Nat.reduceBEq, Nat.reduceEqDiff, ↓reduceIte, reduceCtorEq, Nat.reduceAdd, Nat.reduceMul, Nat.reduceLeDiff, Nat.reduceLT, q3, q17, q18, q19, qH1, qH2, z0g, List.set_cons_zero, zyw, hfl, hst])) | (refine zqd _ rfl ?_ ?_ <;> intro hc <;> (((try simp only [z07] at hc); (try omega)))) | refine nxt ?_ | (refine J _ ?_; clear J K))
  (refine Exists.intro _ (And.intro ?_ ⟨i + 1, rfl, ?_⟩)); rotate_left; (simp (disch := omega) only [go_sem, Nat.reduceBEq, Nat.reduceLeDiff, q0, q3, q17, q18, q19, qH0, qH1, qH2, qH3, true_and, Int.natCast_add, Int.natCast_one]); rotate_left
  all_goals (repeat' (omega))
 ·have hie : i = TL.length := by omega
  subst hie
  rw [List.take_length] at qH2
  repeat' (first | refine nxt ?_ | ((refine zqh fun K J => ?_); (simp (disch := omega) only [go_sem, Nat.reduceBEq, ↓reduceIte, reduceCtorEq, Nat.reduceAdd, q0, q18, q19, qH0, hce, z20])) | (refine zqd _ rfl ?_ ?_ <;> intro hc <;> (((try simp only [z07] at hc); (try omega)))) | refine zqz ?_ | (refine J _ ?_; clear J K))
  (refine z3c (fun U st => ∃ (m : _), U = OL.length - m /\ st.t 0 = .ptr 0 0 /\ st.t 3 = .ptr 1 0 /\ st.t 39 = .rsl false 18 (OL.map z39) /\ st.t 40 = .int .i64 OL.length /\ st.t 41 = .int .i64 m /\ st.H 0 = some (.box 74 (z13 s)) /\ st.H 1 = some (.box 74 [.osl 2 TL.length, .osl 3 m, .int .i64 s.dn.length]) /\ st.H 2 = some (.row 27 TL.length (TL.flatMap z0a)) /\ st.H 3 = some (.row 32 m ((OL.take m).flatMap z1l)) /\ (m <= OL.length) /\ (4 <= st.nx)) ?_ ?_); rotate_left; (rintro U st ⟨m, rfl, r0, r3, r39, r40, r41, rH0, rH1, rH2, rH3, rp0, rp1⟩); rotate_left
  ·(refine ⟨_, 0, rfl, ?_⟩); (simp (disch := omega) only [go_sem, Nat.reduceBEq, q0, q3, qH0, qH1, qH2, qH3, true_and, Int.natCast_zero, List.flatMap_nil, hce, z20])
   all_goals (repeat' (omega))
  by_cases hm : m < OL.length
  ·have hg := ho _ (List.getElem_mem hm)
   have c2 := za0 OL[m] hg.1 hg.2
   have htk := List.take_succ_eq_append_getElem hm
   repeat' (first | ((first | refine zqh fun K J => ?_ | refine zqr fun K J => ?_ | refine zqq (by decide +kernel) fun K J => ?_ | refine zqt (c2) ?_); (simp (disch := omega) only [go_sem, Nat.reduceBEq, Nat.reduceEqDiff, ↓reduceIte, reduceCtorEq, Nat.reduceAdd, Nat.reduceMul, Nat.reduceLeDiff, Nat.reduceLT, r3, r39, r40, r41, rH1, rH3, z39, List.set_cons_succ, List.set_cons_zero, zjg])) | (refine zqd _ rfl ?_ ?_ <;> intro hc <;> (((try simp only [z07] at hc); (try omega)))) | refine nxt ?_ | (refine J _ ?_; clear J K))
   (refine Exists.intro _ (And.intro ?_ ⟨m + 1, rfl, ?_⟩)); rotate_left; (simp (disch := omega) only [go_sem, Nat.reduceBEq, Nat.reduceLeDiff, r0, r3, r39, r40, r41, rH0, rH1, rH2, rH3, true_and, Int.natCast_add, Int.natCast_one, List.flatMap_append, List.flatMap_cons, List.flatMap_nil, List.append_nil, htk]); rotate_left
   all_goals (repeat' (omega))
  ·have hme : m = OL.length := by omega
   subst hme
   rw [List.take_length] at rH3
   repeat' (first | ((refine zqh fun K J => ?_); (simp (disch := omega) only [go_sem, ↓reduceIte, r40, r41])) | (refine zqd _ rfl ?_ ?_ <;> intro hc <;> (((try simp only [z07] at hc); (try omega)))) | refine nxt ?_ | (refine J _ ?_; clear J K))
   have u2 : pureD.pureL (TL.flatMap z0a) = true := z1t z04 _
   have u3 := z6y OL
   have v2 : z1i true 8 TL.length (TL.flatMap z0a) = TL.map z0g := z6z (f := z0a) (sz := 8) z0c TL
   have v3 := z62 OL
   refine zqz (zg0 _ (SealTo.trans (zg2 (id := 2) (e := 27) (k := TL.length) (cs := TL.flatMap z0a) (by (simp (disch := omega) only [go_sem, rH2])) (by decide +kernel) u2) (SealTo.trans (zg2 (id := 3) (e := 32) (k := OL.length) (cs := OL.flatMap z1l) (by (simp (disch := omega) only [go_sem, Nat.reduceBEq, rH3]); rw [z5o _ u3]) (by decide +kernel) u3) (z61 (b := 1) (e := 74) (cs := [.rsl false 8 (TL.map z0g), .rsl false 18 (OL.map z39), .int .i64 s.dn.length]) (cs' := z13 s) ?_ ?_))) ?_)
   ·(simp (disch := omega) only [go_sem, Nat.reduceBEq, rH1, v2, v3])
   ·rw [hce]
    refine ⟨Le_full ?_, Le.refl _, Le.refl _, trivial⟩
    intro h
    have := congrArg List.length h
    rw [List.length_map, List.length_nil] at this
    omega
   have u4 := z5o (P := prog) (id := 2) (e := 27) (k := TL.length) (cs := TL.flatMap z0a) (z13 s) (z2a s)
   have u5 := z5o (P := prog) (id := 3) (e := 32) (k := OL.length) (cs := OL.flatMap z1l) (z13 s) (z2a s)
   repeat' (first | ((refine zqh fun K J => ?_); (simp (disch := omega) only [go_sem, Nat.reduceBEq, r3])) | refine nxt ?_ | refine zqu (by (simp (disch := omega) only [go_sem, Nat.reduceBEq]); rfl) rfl ?_ | (refine J _ ?_; clear J K))
   refine ⟨fun j => j, rfl, Nat.le_refl 1, rfl, ?_, ?_⟩
   ·(simp (disch := omega) only [go_sem, Nat.reduceBEq, rH0, u4, u5])
    all_goals first | done | rfl
   ·(simp (disch := omega) only [go_sem, Nat.reduceBEq, rH1])
    all_goals first | done | rfl
theorem zou (s : Ses) : List.take 10 (z31 s) = z31 s := List.take_of_length_le (by rw [zc9]; decide)
theorem zxd (a b c d e f g h i j : D) (s : Ses) : z17 [a, b, c, d, e, f, g, h, i, j] 0 (z31 s) = z31 s := z4e _ _ (by rw [zc9]; rfl)
theorem zov (p : Ky) : List.take 19 (za9 p) = za9 p := List.take_of_length_le (by rw [z70]; decide)
theorem splice_k (z a0 a1 a2 a3 a4 a5 a6 a7 a8 a9 b0 b1 b2 b3 b4 b5 b6 b7 : D) (p : Ky) : z17 [z, a0, a1, a2, a3, a4, a5, a6, a7, a8, a9, b0, b1, b2, b3, b4, b5, b6, b7] 0 (za9 p) = za9 p := z4e _ _ (by rw [z70]; rfl)
theorem ztt (u : T) (hfu : fitB u = true) (l : List Ky) (hl : l.length <= 606627104962) (hr : ∀ q ∈ l, RdO q.o) (m : List Ky) (hml : m.length <= 606627104962) (hmr : ∀ q ∈ m, RdO q.o) : PC prog 9 [z0g u, z5q l, z5q m] (.bool true) := by
 have c0 := ztu
 have c1 := zwf u hfu l (by omega) fun p hp => (hr p hp).use
 have d1 := zwf u hfu m (by omega) fun p hp => (hmr p hp).use
 refine z14 1 (by simp only [pureD.pureL, z01, zdz, Bool.and_self]) rfl (z0z [] func9 rfl (by decide +kernel) rfl ?_)
 show awp _ _ (Code.seq _ _) _ _
 by_cases hf : (decide (l.length <= 16) && zuw u 40 && (l.map (·.o)).all fewO) = true
 ·rw [hf] at c1
  obtain ⟨z1, z2, z3, hl16, ho⟩ := zpx hr hf
  by_cases hg : (decide (m.length <= 16) && zuw u 40 && (m.map (·.o)).all fewO) = true
  ·rw [hg] at d1
   obtain ⟨_, _, _, hm16, hmo⟩ := zpx hmr hg
   have c2 := pc_MayE u z1 (by omega) (by omega)
   by_cases h12 : 12 < l.length
   ·repeat' (first | refine nxt ?_ | ((first | refine zqh fun K J => ?_ | refine zqs (c0) ?_ | refine zqs (c1) ?_ | refine zqs (d1) ?_); (simp (disch := omega) only [go_sem, Nat.reduceBEq, ↓reduceIte, Nat.reduceAdd, Nat.reduceLeDiff, z0g, z5q])) | (refine zqd _ rfl ?_ ?_ <;> intro hc <;> (first | (cases hc; done) | ((try simp only [] at hc); (try omega)))) | refine zqu (by simp only [go_sem]; rfl) rfl ?_ | (refine J _ ?_; clear J K) | (refine zqf (fun hb => ?_) (fun hb => ?_) <;> (have hb2 := hb; try simp only [z07] at hb2) <;> ((first | have F := eq_false hb2 | have F := eq_true hb2); (simp (disch := omega) only [go_sem, Nat.reduceBEq, ↓reduceIte, F]); clear hb F; (try omega))))
    all_goals exact z03 rfl
   by_cases h8 : 8 < m.length
   ·skip
    repeat' (first | refine nxt ?_ | ((first | refine zqh fun K J => ?_ | refine zqs (c0) ?_ | refine zqs (c1) ?_ | refine zqs (d1) ?_); (simp (disch := omega) only [go_sem, Nat.reduceBEq, ↓reduceIte, Nat.reduceAdd, Nat.reduceLeDiff, z0g, z5q])) | (refine zqd _ rfl ?_ ?_ <;> intro hc <;> (first | (cases hc; done) | ((try simp only [] at hc); (try omega)))) | refine zqu (by simp only [go_sem]; rfl) rfl ?_ | (refine J _ ?_; clear J K) | (refine zqf (fun hb => ?_) (fun hb => ?_) <;> (have hb2 := hb; try simp only [z07] at hb2) <;> ((first | have F := eq_false hb2 | have F := eq_true hb2); (simp (disch := omega) only [go_sem, Nat.reduceBEq, ↓reduceIte, Nat.reduceAdd, Nat.reduceLeDiff, F]); clear hb F; (try omega))))
    all_goals exact z03 rfl
   by_cases hm : (!(z0i u).any zef && standsT u) = true
   ·rw [hm] at c2
    rw [Bool.and_eq_true, Bool.not_eq_true'] at hm
    have c3 := oc_typed u hm.2 hm.1 l hl16 ho
    have hlv := zrc hm.2 ho l.length
    rw [List.take_length] at hlv
    have hn : 0 + l.length <= 50 := by omega
    obtain ⟨s, hs⟩ : ∃ s, s = zlc (ses0 u) l := ⟨_, rfl⟩
    rw [<- hs] at c3 hlv
    have hsl := hlv.len
    have t1 := gc_Clone s (hlv.trees (by omega)) (fun q hq => ⟨(hlv.ops q hq).sz.ws, (hlv.ops q hq).sz.un⟩) (by omega) 1
    repeat' (first | refine nxt ?_ | ((first | refine zqh fun K J => ?_ | refine zqs (c0) ?_ | refine zqs (c1) ?_ | refine zqs (d1) ?_ | refine zqs (c2) ?_ | refine z6n (c3) ?_ | ((refine callW_gc (t1) ?_ ?_ ?_); (focus ((simp (disch := omega) only [go_sem, Nat.reduceBEq]); done)); (focus (((simp (disch := omega) only [go_sem]); done))))); (simp (disch := omega) only [go_sem, Nat.reduceBEq, ↓reduceIte, Nat.reduceAdd, Nat.reduceLeDiff, z0g, z5q, stO, zou, zxd])) | (refine zqd _ rfl ?_ ?_ <;> intro hc <;> (first | (cases hc; done) | ((try simp only [] at hc); (try omega)))) | (refine J _ ?_; clear J K) | (refine zqf (fun hb => ?_) (fun hb => ?_) <;> (have hb2 := hb; try simp only [z07] at hb2) <;> ((first | have F := eq_false hb2 | have F := eq_true hb2); (simp (disch := omega) only [go_sem, Nat.reduceBEq, ↓reduceIte, Nat.reduceAdd, Nat.reduceLeDiff, F]); clear hb F; (try omega))))
    (refine z3c (fun U st => ∃ (i : _), U = m.length - i /\ st.t 2 = z5q m /\ st.t 7 = .ptr 1 0 /\ st.t 8 = .ptr 2 0 /\ st.t 10 = .ptr 3 0 /\ st.t 11 = .ptr 4 0 /\ st.t 58 = z5q m /\ st.t 59 = .int .i64 m.length /\ st.t 60 = .int .i64 i /\ st.H 1 = some (edO s) /\ st.H 2 = some (stO s) /\ st.H 3 = some (edO (zlc s (m.take i))) /\ st.H 4 = some (stO (zlc s (m.take i))) /\ (i <= m.length) /\ (5 <= st.nx)) ?_ ?_); rotate_left; (rintro U st ⟨i, rfl, q2, q7, q8, q10, q11, q58, q59, q60, qH1, qH2, qH3, qH4, qp0, qp1⟩); rotate_left
    ·(refine ⟨_, 0, rfl, ?_⟩); (simp (disch := omega) only [go_sem, Nat.reduceBEq, Nat.reduceLeDiff, true_and, and_true, and_self, Int.natCast_zero, z5q, stO, List.take_zero])
     exact ⟨rfl, rfl⟩
    by_cases hi : i < m.length
    ·have lr := Live.run (m.take i) hlv fun p hp => hmo p (List.mem_of_mem_take hp)
     have t2 := zr5 lr (by rw [List.length_take]; omega) m[i] (hmo _ (List.getElem_mem hi)) (i := 3) (j := 4) (by decide)
     rw [<- zmp _ _ hi] at t2
     repeat' (first | ((first | refine zqh fun K J => ?_ | refine zqr fun K J => ?_ | ((refine zs7 (t2) ?_ ?_ ?_ ?_ ?_); (focus ((simp (disch := omega) only [go_sem, qH3]); done)); (focus ((simp (disch := omega) only [go_sem, qH4]); done)); (focus (((simp (disch := omega) only [go_sem]); done))); (focus (((simp (disch := omega) only [go_sem]); done))))); (simp (disch := omega) only [go_sem, Nat.reduceBEq, ↓reduceIte, reduceCtorEq, Nat.reduceAdd, Nat.reduceLeDiff, q10, q11, q58, q59, q60, z5q, zk4, z70, zeroT34, zov, splice_k])) | ((first | refine zqd _ rfl (fun hc => ?_) (fun hc => ?_) | refine zqm _ rfl (fun hc => ?_) (fun hc => ?_)) <;> (first | (cases hc; done) | ((try simp only [z07] at hc); (try omega)))) | refine nxt ?_ | (refine J _ ?_; clear J K))
     (refine Exists.intro _ (And.intro ?_ ⟨i + 1, rfl, ?_⟩)); rotate_left; (simp (disch := omega) only [go_sem, Nat.reduceBEq, Nat.reduceLeDiff, q2, q7, q8, q10, q11, q58, q59, q60, qH1, qH2, qH3, qH4, true_and, Int.natCast_add, Int.natCast_one]); rotate_left
     all_goals (repeat' (omega))
    have hie : i = m.length := by omega
    subst hie
    rw [List.take_length] at qH3 qH4
    have lr := Live.run m hlv hmo
    have t3 := zo6 hlv (by omega) (i := 1) (j := 2) (by decide)
    have t4 := zo6 lr (by omega) (i := 3) (j := 4) (by decide)
    repeat' (first | refine nxt ?_ | ((first | refine zqh fun K J => ?_ | ((refine zfn (t3) ?_ ?_ ?_ ?_ ?_); (focus ((simp (disch := omega) only [go_sem, qH1]); done)); (focus ((simp (disch := omega) only [go_sem, qH2]); done)); (focus (((simp (disch := omega) only [go_sem]); omega))); (focus (((simp (disch := omega) only [go_sem]); omega)))) | ((refine zfn (t4) ?_ ?_ ?_ ?_ ?_); (focus ((simp (disch := omega) only [go_sem, qH3]); done)); (focus ((simp (disch := omega) only [go_sem, qH4]); done)); (focus (((simp (disch := omega) only [go_sem]); omega))); (focus (((simp (disch := omega) only [go_sem]); omega))))); (simp (disch := omega) only [go_sem, Nat.reduceBEq, ↓reduceIte, q7, q8, q10, q11, q59, q60])) | (refine zqd _ rfl ?_ ?_ <;> intro hc <;> (first | (cases hc; done) | ((try simp only [z07] at hc); (try omega)))) | refine zqz ?_ | (refine J _ ?_; clear J K))
    (refine z3c (fun U st => ∃ (j : _), U = s.dn.length - j /\ st.t 7 = .ptr 1 0 /\ st.t 8 = .ptr 2 0 /\ st.t 10 = .ptr 3 0 /\ st.t 11 = .ptr 4 0 /\ st.H 1 = some (edO (z9x s j)) /\ st.H 2 = some (stO (z9x s j)) /\ st.H 3 = some (edO (zlc s m)) /\ st.H 4 = some (stO (zlc s m)) /\ (j <= s.dn.length) /\ (5 <= st.nx)) ?_ ?_); rotate_left; (rintro U st ⟨j, rfl, r7, r8, r10, r11, rH1, rH2, rH3, rH4, rp0, rp1⟩); rotate_left
    ·(refine ⟨_, 0, rfl, ?_⟩); (simp (disch := omega) only [go_sem, Nat.reduceBEq, q7, q8, q10, q11, qH1, qH2, qH3, qH4, true_and, zv0])
     all_goals (repeat' (omega))
    by_cases hj : j < s.dn.length
    ·have t5 := (hlv.back j).tcUndo (by omega) 1
     have t6 := (hlv.back j).tcUndoR (by omega) 2
     rw [zv1 s hj] at t5 t6
     repeat' (first | refine nxt ?_ | ((first | refine zqh fun K J => ?_ | refine zqr fun K J => ?_ | ((refine z55 (t5) ?_ ?_ ?_); (focus ((simp (disch := omega) only [go_sem, rH1]); done)); (focus (((simp (disch := omega) only [go_sem]); omega)))) | ((refine z55 (t6) ?_ ?_ ?_); (focus ((simp (disch := omega) only [go_sem, Nat.reduceBEq, rH2]); done)); (focus (((simp (disch := omega) only [go_sem]); omega))))); (simp (disch := omega) only [go_sem, Nat.reduceBEq, r7, r8])) | (refine zqd _ rfl ?_ ?_ <;> intro hc <;> (first | (cases hc; done) | ((try simp only [] at hc); (try omega)))) | (refine J _ ?_; clear J K))
     (refine Exists.intro _ (And.intro ?_ ⟨j + 1, rfl, ?_⟩)); rotate_left; (simp (disch := omega) only [go_sem, Nat.reduceBEq, r7, r8, r10, r11, rH1, rH2, rH3, rH4, true_and]); rotate_left
     all_goals (repeat' (omega))
    have hje : j = s.dn.length := by omega
    subst hje
    have lb := hlv.back s.dn.length
    have t5 := lb.tcUndo (by omega) 1
    have t6 := zo6 lb (by omega) (i := 1) (j := 2) (by decide)
    rw [show z5i (z9x s s.dn.length) = (false, z9x s s.dn.length) from by rw [zzo, zzp]] at t5
    repeat' (first | refine nxt ?_ | ((first | refine zqh fun K J => ?_ | ((refine z55 (t5) ?_ ?_ ?_); (focus ((simp (disch := omega) only [go_sem, rH1]); done)); (focus (((simp (disch := omega) only [go_sem]); omega)))) | ((refine zfn (t4) ?_ ?_ ?_ ?_ ?_); (focus ((simp (disch := omega) only [go_sem, Nat.reduceBEq, rH3]); done)); (focus ((simp (disch := omega) only [go_sem, Nat.reduceBEq, rH4]); done)); (focus (((simp (disch := omega) only [go_sem]); omega))); (focus (((simp (disch := omega) only [go_sem]); omega)))) | ((refine zfn (t6) ?_ ?_ ?_ ?_ ?_); (focus ((simp (disch := omega) only [go_sem, rH1]); done)); (focus ((simp (disch := omega) only [go_sem, Nat.reduceBEq, rH2]); done)); (focus (((simp (disch := omega) only [go_sem]); omega))); (focus (((simp (disch := omega) only [go_sem]); omega))))); (simp (disch := omega) only [go_sem, Nat.reduceBEq, ↓reduceIte, r7, r8, r10, r11])) | (refine zqd _ rfl ?_ ?_ <;> intro hc <;> (first | (cases hc; done) | ((try simp only [] at hc); (try omega)))) | refine zqz ?_ | refine zqu (by simp only [go_sem]; rfl) rfl ?_ | (refine J _ ?_; clear J K))
    all_goals exact z03 rfl
   ·rw [Bool.not_eq_true] at hm
    rw [hm] at c2
    repeat' (first | refine nxt ?_ | ((first | refine zqh fun K J => ?_ | refine zqs (c0) ?_ | refine zqs (c1) ?_ | refine zqs (d1) ?_ | refine zqs (c2) ?_); (simp (disch := omega) only [go_sem, Nat.reduceBEq, ↓reduceIte, Nat.reduceAdd, Nat.reduceLeDiff, z0g, z5q])) | (refine zqd _ rfl ?_ ?_ <;> intro hc <;> (first | (cases hc; done) | ((try simp only [] at hc); (try omega)))) | refine zqu (by simp only [go_sem]; rfl) rfl ?_ | (refine J _ ?_; clear J K) | (refine zqf (fun hb => ?_) (fun hb => ?_) <;> (have hb2 := hb; try simp only [z07] at hb2) <;> ((first | have F := eq_false hb2 | have F := eq_true hb2); (simp (disch := omega) only [go_sem, Nat.reduceBEq, ↓reduceIte, Nat.reduceAdd, Nat.reduceLeDiff, F]); clear hb F; (try omega))))
    exact z03 rfl
  ·rw [Bool.not_eq_true] at hg
   rw [hg] at d1
   repeat' (first | refine nxt ?_ | ((first | refine zqh fun K J => ?_ | refine zqs (c0) ?_ | refine zqs (c1) ?_ | refine zqs (d1) ?_); (simp (disch := omega) only [go_sem, Nat.reduceBEq, ↓reduceIte, Nat.reduceAdd, Nat.reduceLeDiff, z0g, z5q])) | (refine zqd _ rfl ?_ ?_ <;> intro hc <;> (first | (cases hc; done) | ((try simp only [] at hc); (try omega)))) | refine zqu (by simp only [go_sem]; rfl) rfl ?_ | (refine J _ ?_; clear J K))
   all_goals exact z03 rfl
 ·rw [Bool.not_eq_true] at hf
  rw [hf] at c1
  repeat' (first | refine nxt ?_ | ((first | refine zqh fun K J => ?_ | refine zqs (c0) ?_ | refine zqs (c1) ?_); (simp (disch := omega) only [go_sem, Nat.reduceBEq, ↓reduceIte, Nat.reduceAdd, Nat.reduceLeDiff, z0g, z5q])) | (refine zqd _ rfl ?_ ?_ <;> intro hc <;> (first | (cases hc; done) | ((try simp only [] at hc); (try omega)))) | refine zqu (by simp only [go_sem]; rfl) rfl ?_ | (refine J _ ?_; clear J K))
  all_goals exact z03 rfl
end
end Go.Proofs.YtlfohdkfpdkhhaaGreatDoor
