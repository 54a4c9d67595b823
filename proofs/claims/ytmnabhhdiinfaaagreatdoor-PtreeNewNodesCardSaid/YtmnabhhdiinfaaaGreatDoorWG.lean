import Derived.Test.YtmnabhhdiinfaaaGreatDoorWF
/-
 Lemmas of the claim. No condition but those that each names.
-/
set_option linter.unusedSimpArgs false
set_option linter.unusedVariables false
set_option maxHeartbeats 8000000
set_option linter.unusedSectionVars false
namespace Go.Proofs.YtmnabhhdiinfaaaGreatDoor
open _root_.Go.Proofs.Tryz
section
open Abs Facts Tr
attribute [local irreducible] awp
set_option maxRecDepth 100000
def zhf (L : List Nat) : HObj := .map (L.map fun j => (.ptr j 0, .bool true))
def numK : D -> Option Nat
 | .ptr j 0 => some j
 | _ => none
def numsO : HObj -> List Nat
 | .map es => es.filterMap fun e => numK e.1
 | _ => []
theorem zfp (L : List Nat) : numsO (zhf L) = L := by
 show List.filterMap (fun e : D × D => numK e.1) (L.map fun j => (D.ptr j 0, D.bool true)) = L
 rw [List.filterMap_map]
 exact List.filterMap_some
def zfq (w : V) (o : HObj) : HObj := if w.num ∈ numsO o then o else zhf (numsO o ++ [w.num])
def ze4 (H : HM) (j : Nat) : Prop := ∃ e cs, H j = some (.box e cs)
def zl1 (n : Nat) (H : HM) (j : Nat) : Prop := j < n /\ ze4 H j
def zzu (B : Nat -> Prop) (o : HObj) : Prop := ∃ L, o = zhf L /\ ∀ j ∈ L, B j
theorem zry {B : Nat -> Prop} {w : V} {o : HObj} (hw : B w.num) (h : zzu B o) : zzu B (zfq w o) := by
 obtain ⟨L, rfl, hL⟩ := h
 unfold zfq
 rw [zfp]
 split
 ·exact ⟨L, rfl, hL⟩
 ·refine ⟨_, rfl, fun j hj => ?_⟩
  rcases List.mem_append.1 hj with hj | hj
  ·exact hL j hj
  ·rw [List.mem_singleton] at hj; subst hj; exact hw
theorem zv6 {l : List V} : ∀ L : List Nat, ∃ M, zce zfq l (zhf L) = zhf M /\ ∀ x, x ∈ M ↔ x ∈ L \/ x ∈ l.map V.num := by
 induction l with
 | nil => exact fun L => ⟨L, rfl, fun x => by simp⟩
 | cons w l ih =>
  intro L
  have h1 : zfq w (zhf L) = if w.num ∈ L then zhf L else zhf (L ++ [w.num]) := by unfold zfq; rw [zfp]
  show ∃ M, zce zfq l (zfq w (zhf L)) = zhf M /\ _
  rw [h1]
  by_cases h : w.num ∈ L
  ·rw [if_pos h]
   obtain ⟨M, e, hM⟩ := ih L
   refine ⟨M, e, fun x => ?_⟩
   rw [hM, List.map_cons, List.mem_cons]
   constructor
   ·rintro (h2 | h2)
    ·exact .inl h2
    ·exact .inr (.inr h2)
   ·rintro (h2 | h2 | h2)
    ·exact .inl h2
    ·exact .inl (h2 ▸ h)
    ·exact .inr h2
  ·rw [if_neg h]
   obtain ⟨M, e, hM⟩ := ih (L ++ [w.num])
   refine ⟨M, e, fun x => ?_⟩
   rw [hM, List.map_cons, List.mem_cons, List.mem_append, List.mem_singleton, or_assoc]
theorem zzv (L : List Nat) (p : Nat) : z7z (L.map fun j => (D.ptr j 0, D.bool true)) p (.bool true) = L.map fun j => (D.ptr j 0, D.bool true) := by
 induction L generalizing p with
 | nil => rfl
 | cons a L ih =>
  cases p with
  | zero => rfl
  | succ p => simp only [List.map_cons, z7z, ih]
section
variable {H H0 : HM} {n m k b : Nat} {v w : V} {o : HObj}
theorem ac_Know (hw : ze4 H w.num) (hb : H b = some (.box 83 [.mp m])) (hm : H m = some o) (ho : zzu (ze4 H) o) : AC prog 45 [.ptr w.num 0, .ptr b 0] H n fun r H' nx' => r = .tup [] /\ H' = z0k H m (some (zfq w o)) /\ nx' = n := by
 obtain ⟨L, rfl, hL⟩ := ho
 have h1 : zfq w (zhf L) = if w.num ∈ L then zhf L else zhf (L ++ [w.num]) := by unfold zfq; rw [zfp]
 rw [h1]
 have hm2 : H m = some (.map (L.map fun j => (.ptr j 0, .bool true))) := hm
 refine (z14 [] func45 rfl (by decide +kernel) rfl ?_)
 show awp _ _ (Code.region _ _ _) _ _
 by_cases h : w.num ∈ L
 ·obtain ⟨p, hp, hf⟩ := zfm (x := .bool true) hw L hL h
  rw [if_pos h]
  have hs := zzv L p
  repeat' (first | ((refine zqr fun K J => ?_); (simp (disch := omega) only [go_sem, Nat.reduceBEq, ↓reduceIte, Nat.reduceAdd, hb, hm2, hf, hs])) | refine zqu (by simp only [go_sem]; rfl) rfl ?_ | (refine J _ ?_; clear J K))
  exact ⟨rfl, rfl, rfl⟩
 ·have hf := zjb (f := fun _ => .bool true) hw L hL h
  rw [if_neg h]
  repeat' (first | ((refine zqr fun K J => ?_); (simp (disch := omega) only [go_sem, Nat.reduceBEq, ↓reduceIte, Nat.reduceAdd, hb, hm2, hf])) | refine zqu (by simp only [go_sem]; rfl) rfl ?_ | (refine J _ ?_; clear J K))
  unfold zhf
  rw [List.map_append]
  exact ⟨rfl, rfl, rfl⟩
def z8e (M : List Nat) (w : V) (o : HObj) : HObj := if w.num ∈ M then o else cntS w o
theorem zv7 (M : List Nat) (w : V) (o : HObj) (h : zme o) : zme (z8e M w o) := by
 unfold z8e
 split
 ·exact h
 ·exact zmf w o h
theorem zrz (M : List Nat) (l : List V) (i : Nat) (h : i + l.length <= 1000000000) : zce (z8e M) l (.box 3 [.int .i64 (i : Nat)]) = .box 3 [.int .i64 ((i + l.countP fun w => !decide (w.num ∈ M) : Nat))] := by
 induction l generalizing i with
 | nil => rfl
 | cons w l ih =>
  simp only [List.length_cons] at h
  by_cases hw : w.num ∈ M
  ·show zce (z8e M) l (z8e M w _) = _
   have e : z8e M w (.box 3 [.int .i64 (i : Nat)]) = .box 3 [.int .i64 (i : Nat)] := if_pos hw
   rw [e, ih i (by omega), List.countP_cons_of_neg (by simp [hw])]
  ·show zce (z8e M) l (z8e M w _) = _
   have e : z8e M w (.box 3 [.int .i64 (i : Nat)]) = .box 3 [.int .i64 ((i + 1 : Nat))] := by
    unfold z8e
    rw [if_neg hw]
    show HObj.box 3 [.int .i64 (IntKind.i64.wrap ((i : Int) + 1))] = _
    rw [zsq (by omega)]; rfl
   rw [e, ih (i + 1) (by omega), List.countP_cons_of_pos (by simp [hw])]
   congr 3
   congr 1
   omega
theorem zzw {M : List Nat} (hw : ze4 H w.num) (hM : ∀ j ∈ M, ze4 H j) (hb : H b = some (.box 83 [.mp m])) (hm : H m = some (zhf M)) (hk : H k = some o) (ho : zme o) : AC prog 46 [.ptr w.num 0, .ptr b 0, .ptr k 0] H n fun r H' nx' => r = .tup [] /\ H' = z0k H k (some (z8e M w o)) /\ nx' = n := by
 obtain ⟨i, rfl⟩ := ho
 have hm2 : H m = some (.map (M.map fun j => (.ptr j 0, .bool true))) := hm
 unfold z8e
 refine (z14 [] func46 rfl (by decide +kernel) rfl ?_)
 show awp _ _ (Code.seq _ _) _ _
 by_cases h : w.num ∈ M
 ·obtain ⟨p, hp, hf⟩ := zfm (x := .bool true) hw M hM h
  rw [if_pos h]
  repeat' (first | ((refine zqh fun K J => ?_); (simp (disch := omega) only [go_sem, Nat.reduceBEq, ↓reduceIte, Nat.reduceAdd, hb, hm2, hf])) | ((refine zqm _ rfl (fun hc => ?_) (fun hc => ?_)) <;> (first | (cases hc; done) | ((try simp only [] at hc); (try omega)))) | refine zqk ?_ | refine zqu (by simp only [go_sem]; rfl) rfl ?_ | (refine J _ ?_; clear J K))
  exact ⟨rfl, (zku hk).symm, rfl⟩
 ·have hf := zjb (f := fun _ => .bool true) hw M hM h
  rw [if_neg h]
  repeat' (first | ((first | refine zqh fun K J => ?_ | refine zqr fun K J => ?_); (simp (disch := omega) only [go_sem, Nat.reduceBEq, ↓reduceIte, Nat.reduceAdd, Nat.reduceLeDiff, Nat.reduceLT, hb, hm2, hf, hk])) | ((refine zqm _ rfl (fun hc => ?_) (fun hc => ?_)) <;> (first | (cases hc; done) | ((try simp only [] at hc); (try omega)))) | refine zqu (by simp only [go_sem]; rfl) rfl ?_ | (refine J _ ?_; clear J K))
  exact ⟨rfl, rfl, rfl⟩
theorem zf5 (hst : Stand H v) {w : V} (hw : w ∈ nodesV v) : ze4 H w.num := ⟨_, _, ((z29 H w).1 (z5r v hst w hw)).1⟩
theorem zzx {H4 : HM} {w : V} (hs : szB (treeV w) = true) (hu : Under n w) (hst : Stand H w) (hag : Agree n H H4) (h1 : H4 (n + 1) = some (.box 83 [.mp n])) (h0 : H4 n = some (zhf [])) :
  ∃ M, (∀ x, x ∈ M ↔ x ∈ (nodesV w).map V.num) /\ AC prog 42 [.ptr w.num 0, .fn 45 [.ptr (n + 1) 0]] H4 (n + 2) fun r H' nx' => r = .tup [] /\ H' = z0k H4 n (some (zhf M)) /\ nx' = n + 2 := by
 obtain ⟨M, e, hM⟩ := zv6 (l := nodesV w) []
 refine ⟨M, fun x => by rw [hM]; simp, ?_⟩
 rw [<- e]
 have hF : ∀ H' : HM, (Agree n H H' /\ H' (n + 1) = some (.box 83 [.mp n])) -> ∀ x ∈ nodesV w, Stand H' x := fun H' h x hx => Stand.agree h.1 x (z3e hu hx) (z5r w hst x hx)
 refine zoa zfq (zzu (zl1 n H)) (fun H' => Agree n H H' /\ H' (n + 1) = some (.box 83 [.mp n])) (fun H' o h => ⟨fun j hj => by rw [z01 _ (by omega)]; exact h.1 j hj, by rw [z01 _ (by omega)]; exact h.2⟩)
  (fun x => zl1 n H x.num) (fun x o hx h => zry hx h) w hs (fun x hx => ⟨z3e hu hx _ (z4a x), zf5 hst hx⟩) hF (fun x hx H' nx o hux hn hno hko hFH => ?_) H4 (n + 2) (zhf []) (hu.le (by omega)) (by omega) h0 ⟨[], rfl, fun j hj => by cases hj⟩ ⟨hag, h1⟩
 obtain ⟨L, hL, hLb⟩ := hko
 have old : ∀ j, zl1 n H j -> ze4 H' j := fun j ⟨hj, e, cs, h⟩ => ⟨e, cs, by rw [hFH.1 j hj]; exact h⟩
 exact ac_Know (old _ ⟨z3e hu hx _ (z4a x), zf5 hst hx⟩) hFH.2 hno ⟨L, hL, fun j hj => old j (hLb j hj)⟩
theorem zl2 {H5 : HM} {M : List Nat} (hs : szB (treeV v) = true) (hcn : (nodesV v).length <= 1000000) (hu : Under n v) (hst : Stand H v) (hag : Agree n H H5) (hM : ∀ j ∈ M, zl1 n H j) (h1 : H5 (n + 1) = some (.box 83 [.mp n])) (h0 : H5 n = some (zhf M)) (h2 : H5 (n + 2) = some (.box 3 [.int .i64 0])) :
  AC prog 42 [.ptr v.num 0, .fn 46 [.ptr (n + 1) 0, .ptr (n + 2) 0]] H5 (n + 3) fun r H' nx' => r = .tup [] /\ H' = z0k H5 (n + 2) (some (.box 3 [.int .i64 (((nodesV v).countP fun w => !decide (w.num ∈ M) : Nat))])) /\ nx' = n + 3 := by
 have hfo := zrz M (nodesV v) 0 (by omega)
 rw [Nat.zero_add] at hfo
 rw [<- hfo]
 have hF : ∀ H' : HM, (Agree n H H' /\ H' (n + 1) = some (.box 83 [.mp n]) /\ H' n = some (zhf M)) -> ∀ x ∈ nodesV v, Stand H' x := fun H' h x hx => Stand.agree h.1 x (z3e hu hx) (z5r v hst x hx)
 refine zoa (z8e M) zme (fun H' => Agree n H H' /\ H' (n + 1) = some (.box 83 [.mp n]) /\ H' n = some (zhf M))
  (fun H' o h => ⟨fun j hj => by rw [z01 _ (by omega)]; exact h.1 j hj, by rw [z01 _ (by omega)]; exact h.2.1, by rw [z01 _ (by omega)]; exact h.2.2⟩)
  (fun _ => True) (fun x o _ h => zv7 M x o h) v hs (fun _ _ => trivial) hF (fun x hx H' nx o hux hn hno hko hFH => ?_) H5 (n + 3) _ (hu.le (by omega)) (by omega) h2 ⟨_, rfl⟩ ⟨hag, h1, h0⟩
 have old : ∀ j, zl1 n H j -> ze4 H' j := fun j ⟨hj, e, cs, h⟩ => ⟨e, cs, by rw [hFH.1 j hj]; exact h⟩
 exact zzw (old _ ⟨z3e hu hx _ (z4a x), zf5 hst hx⟩) (fun j hj => old j (hM j hj)) hFH.2.1 hFH.2.2 hno hko
theorem zl3 {tb : Nat} (hs : szB (treeV v) = true) (hcn : cntT (treeV v) <= 1000000) (htb : tb < n) (hH : H tb = some (treeB (.ptr v.num 0))) (hu : Under n v) (hst : Stand H v) : RC prog 21 [.ptr tb 0, .nptr] H n (.int .i64 (cntT (treeV v))) := by
 rw [zf3] at hcn ⊢
 have hnb := z4h htb
 refine zjn rfl (z14 [] func21 rfl (by decide +kernel) rfl ?_)
 show awp _ _ (Code.seq _ _) _ _
 repeat' (first | refine zqj ?_ | ((refine zqh fun K J => ?_); (simp (disch := omega) only [go_sem, Nat.reduceBEq, ↓reduceIte, reduceCtorEq, Nat.reduceAdd, Nat.reduceLeDiff, Nat.reduceLT, hH, hnb, treeB])) | ((refine zqd _ rfl (fun hc => ?_) (fun hc => ?_)) <;> (first | (cases hc; done) | ((try simp only [] at hc); (try omega)))) | refine zqb ?_ | (refine J _ ?_; clear J K))
 refine z1m ((zl2 (M := []) hs hcn hu hst (fun j hj => ?_) (fun j hj => by cases hj) ?_ ?_ ?_).mono fun r' H' n' ⟨e1, e2, e3⟩ => ?_)
 ·(simp (disch := omega) only [go_sem])
  simp (disch := omega) only [z3m]
 ·(simp (disch := omega) only [go_sem, hnb])
 ·(simp (disch := omega) only [go_sem, hnb])
  rfl
 ·(simp (disch := omega) only [go_sem, hnb])
 ·subst e1; subst e3
  have hn2 : H' (n + 2) = some (.box 3 [.int .i64 (((nodesV v).countP fun w => !decide (w.num ∈ ([] : List Nat)) : Nat))]) := by rw [e2]; exact z2u
  have hcp : ((nodesV v).countP fun w => !decide (w.num ∈ ([] : List Nat))) = (nodesV v).length := by simp
  rw [hcp] at hn2
  (try (simp (disch := omega) only [go_sem])); repeat' (first | ((refine zqh fun K J => ?_); (simp (disch := omega) only [go_sem, Nat.reduceBEq, ↓reduceIte, Nat.reduceAdd, hn2])) | refine zqn ?_ | refine zqu (by simp only [go_sem]; rfl) rfl ?_ | (refine J _ ?_; clear J K))
  (simp (disch := omega) only [go_sem, Nat.reduceBEq])
  refine fun j hj => ?_
  rw [e2, z01 _ (by omega)]
  (simp (disch := omega) only [go_sem])
  simp (disch := omega) only [z3m]
theorem z8u {tb tb2 : Nat} (hs : szB (treeV v) = true) (hcn : cntT (treeV v) <= 1000000) (htb : tb < n) (hH : H tb = some (treeB (.ptr v.num 0))) (hu : Under n v) (hst : Stand H v)
  (hs2 : szB (treeV w) = true) (htb2 : tb2 < n) (hH2 : H tb2 = some (treeB (.ptr w.num 0))) (hu2 : Under n w) (hst2 : Stand H w) : RC prog 21 [.ptr tb 0, .ptr tb2 0] H n (.int .i64 (zz3 v w)) := by
 rw [zf3] at hcn
 have hnb := z4h htb
 have hnb2 := z4h htb2
 refine zjn rfl (z14 [] func21 rfl (by decide +kernel) rfl ?_)
 show awp _ _ (Code.seq _ _) _ _
 repeat' (first | refine zqj ?_ | ((refine zqh fun K J => ?_); (simp (disch := omega) only [go_sem, Nat.reduceBEq, ↓reduceIte, reduceCtorEq, Nat.reduceAdd, Nat.reduceLeDiff, Nat.reduceLT, hH2, hnb, hnb2, treeB])) | ((refine zqd _ rfl (fun hc => ?_) (fun hc => ?_)) <;> (first | (cases hc; done) | ((try simp only [] at hc); (try omega)))) | (refine J _ ?_; clear J K))
 obtain ⟨M, hM, hac⟩ := zzx (H4 := z0k (z0k (z0k H n (some (.map []))) (n + 1) (some (.box 83 [.nmp]))) (n + 1) (some (.box 83 [.mp n]))) hs2 hu2 hst2 (fun j hj => by rw [z01 _ (by omega), z01 _ (by omega), z01 _ (by omega)]) z2u (by rw [z01 _ (by omega), z01 _ (by omega), z2u]; rfl)
 refine z1m (hac.mono fun r' H' n' ⟨e1, e2, e3⟩ => ?_)
 subst e1; subst e3
 have hag1 : Agree n H H' := fun j hj => by rw [e2, z01 _ (by omega), z01 _ (by omega), z01 _ (by omega), z01 _ (by omega)]
 have h1 : H' (n + 1) = some (.box 83 [.mp n]) := by rw [e2, z01 _ (by omega), z2u]
 have h0 : H' n = some (zhf M) := by rw [e2, z2u]
 have hHt : H' tb = some (.box 78 [.ptr v.num 0]) := (hag1 tb htb).trans hH
 (try (simp (disch := omega) only [go_sem])); repeat' (first | ((refine zqh fun K J => ?_); (simp (disch := omega) only [go_sem, Nat.reduceBEq, ↓reduceIte, reduceCtorEq, Nat.reduceAdd, Nat.reduceLeDiff, Nat.reduceLT, hHt, hnb])) | (refine J _ ?_; clear J K))
 refine z1m ((zl2 (H := H) (M := M) hs hcn hu hst (fun j hj => ?_) (fun j hj => ?_) ?_ ?_ ?_).mono fun r' H2 n' ⟨e4, e5, e6⟩ => ?_)
 ·(simp (disch := omega) only [go_sem])
  simp (disch := omega) only [z3m]
  exact hag1 j hj
 ·obtain ⟨x, hx, rfl⟩ := List.mem_map.1 ((hM j).1 hj)
  exact ⟨z3e hu2 hx _ (z4a x), zf5 hst2 hx⟩
 ·(simp (disch := omega) only [go_sem, hnb])
  exact h1
 ·(simp (disch := omega) only [go_sem, hnb])
  exact h0
 ·(simp (disch := omega) only [go_sem])
 ·subst e4; subst e6
  have hn2 : H2 (n + 2) = some (.box 3 [.int .i64 (((nodesV v).countP fun w => !decide (w.num ∈ M) : Nat))]) := by rw [e5]; exact z2u
  have hcp : ((nodesV v).countP fun w => !decide (w.num ∈ M)) = zz3 v w := by
   unfold zz3
   refine List.countP_congr fun x _ => ?_
   have := hM x.num
   simp only [Bool.not_eq_true', decide_eq_false_iff_not, this]
  rw [hcp] at hn2
  (try (simp (disch := omega) only [go_sem])); repeat' (first | ((refine zqh fun K J => ?_); (simp (disch := omega) only [go_sem, Nat.reduceBEq, ↓reduceIte, Nat.reduceAdd, hn2])) | refine zqn ?_ | refine zqu (by simp only [go_sem]; rfl) rfl ?_ | (refine J _ ?_; clear J K))
  (simp (disch := omega) only [go_sem, Nat.reduceBEq])
  refine fun j hj => ?_
  rw [e5, z01 _ (by omega)]
  (simp (disch := omega) only [go_sem])
  simp (disch := omega) only [z3m]
  exact hag1 j hj
end
end
section
open Abs Facts Tr
attribute [local irreducible] awp
set_option maxRecDepth 100000
theorem zr7 {k n : Nat} (h : k < n) : (n == n + 1) = false /\ (n == n + 2) = false /\ (n == n + 3) = false /\ (n == n + 4) = false /\ (n == n + 5) = false /\ (n == n + 6) = false /\ (n == n + 7) = false /\ (n == n + 8) = false /\ (n == n + 9) = false /\ (n + 1 == n) = false /\ (n + 1 == n + 2) = false /\ (n + 1 == n + 3) = false /\ (n + 1 == n + 4) = false /\ (n + 1 == n + 5) = false /\ (n + 1 == n + 6) = false /\ (n + 1 == n + 7) = false /\ (n + 1 == n + 8) = false /\ (n + 1 == n + 9) = false /\ (n + 2 == n) = false /\ (n + 2 == n + 1) = false /\ (n + 2 == n + 3) = false /\ (n + 2 == n + 4) = false /\ (n + 2 == n + 5) = false /\ (n + 2 == n + 6) = false /\ (n + 2 == n + 7) = false /\ (n + 2 == n + 8) = false /\ (n + 2 == n + 9) = false /\ (n + 3 == n) = false /\ (n + 3 == n + 1) = false /\ (n + 3 == n + 2) = false /\ (n + 3 == n + 4) = false /\ (n + 3 == n + 5) = false /\ (n + 3 == n + 6) = false /\ (n + 3 == n + 7) = false /\ (n + 3 == n + 8) = false /\ (n + 3 == n + 9) = false /\ (n + 4 == n) = false /\ (n + 4 == n + 1) = false /\ (n + 4 == n + 2) = false /\ (n + 4 == n + 3) = false /\ (n + 4 == n + 5) = false /\ (n + 4 == n + 6) = false /\ (n + 4 == n + 7) = false /\ (n + 4 == n + 8) = false /\ (n + 4 == n + 9) = false /\ (n + 5 == n) = false /\ (n + 5 == n + 1) = false /\ (n + 5 == n + 2) = false /\ (n + 5 == n + 3) = false /\ (n + 5 == n + 4) = false /\ (n + 5 == n + 6) = false /\ (n + 5 == n + 7) = false /\ (n + 5 == n + 8) = false /\ (n + 5 == n + 9) = false /\ (n + 6 == n) = false /\ (n + 6 == n + 1) = false /\ (n + 6 == n + 2) = false /\ (n + 6 == n + 3) = false /\ (n + 6 == n + 4) = false /\ (n + 6 == n + 5) = false /\ (n + 6 == n + 7) = false /\ (n + 6 == n + 8) = false /\ (n + 6 == n + 9) = false /\ (n + 7 == n) = false /\ (n + 7 == n + 1) = false /\ (n + 7 == n + 2) = false /\ (n + 7 == n + 3) = false /\ (n + 7 == n + 4) = false /\ (n + 7 == n + 5) = false /\ (n + 7 == n + 6) = false /\ (n + 7 == n + 8) = false /\ (n + 7 == n + 9) = false /\ (n + 8 == n) = false /\ (n + 8 == n + 1) = false /\ (n + 8 == n + 2) = false /\ (n + 8 == n + 3) = false /\ (n + 8 == n + 4) = false /\ (n + 8 == n + 5) = false /\ (n + 8 == n + 6) = false /\ (n + 8 == n + 7) = false /\ (n + 8 == n + 9) = false /\ (n + 9 == n) = false /\ (n + 9 == n + 1) = false /\ (n + 9 == n + 2) = false /\ (n + 9 == n + 3) = false /\ (n + 9 == n + 4) = false /\ (n + 9 == n + 5) = false /\ (n + 9 == n + 6) = false /\ (n + 9 == n + 7) = false /\ (n + 9 == n + 8) = false /\ (k == n) = false /\ (n == k) = false /\ (k == n + 1) = false /\ (n + 1 == k) = false /\ (k == n + 2) = false /\ (n + 2 == k) = false /\ (k == n + 3) = false /\ (n + 3 == k) = false /\ (k == n + 4) = false /\ (n + 4 == k) = false /\ (k == n + 5) = false /\ (n + 5 == k) = false /\ (k == n + 6) = false /\ (n + 6 == k) = false /\ (k == n + 7) = false /\ (n + 7 == k) = false /\ (k == n + 8) = false /\ (n + 8 == k) = false /\ (k == n + 9) = false /\ (n + 9 == k) = false := by
 refine ⟨?_, ?_, ?_, ?_, ?_, ?_, ?_, ?_, ?_, ?_, ?_, ?_, ?_, ?_, ?_, ?_, ?_, ?_, ?_, ?_, ?_, ?_, ?_, ?_, ?_, ?_, ?_, ?_, ?_, ?_, ?_, ?_, ?_, ?_, ?_, ?_, ?_, ?_, ?_, ?_, ?_, ?_, ?_, ?_, ?_, ?_, ?_, ?_, ?_, ?_, ?_, ?_, ?_, ?_, ?_, ?_, ?_, ?_, ?_, ?_, ?_, ?_, ?_, ?_, ?_, ?_, ?_, ?_, ?_, ?_, ?_, ?_, ?_, ?_, ?_, ?_, ?_, ?_, ?_, ?_, ?_, ?_, ?_, ?_, ?_, ?_, ?_, ?_, ?_, ?_, ?_, ?_, ?_, ?_, ?_, ?_, ?_, ?_, ?_, ?_, ?_, ?_, ?_, ?_, ?_, ?_, ?_, ?_, ?_, ?_⟩ <;> exact za1 (by omega)
structure UpdOK (e : Int) (u' : T) (made : List Idv) (v : V) (H : HM) (n : Nat) (o : D × HM × Nat) : Prop where
 le : n <= o.2.2
 agree : Agree n H o.2.1
 bad : e ≠ 0 -> o.1 = .tup [.nptr, .int .i64 e]
 good : e = 0 -> ∃ v' t, o.1 = .tup [.ptr t 0, .int .i64 0] /\ n <= t /\ t < o.2.2 /\ o.2.1 t = some (treeB (.ptr v'.num 0)) /\ Stand o.2.1 v' /\ Under o.2.2 v' /\ treeV v' = u' /\ Upd n made v v' /\ n <= v'.num
theorem zfd {v w : V} (hs : szB (treeV v) = true) (hw : w ∈ nodesV v) : w.kids.length <= 1000000 := by
 obtain ⟨_, _, _, _, _, h3, _⟩ := (z2i _).1 (sz_node v hs w hw)
 rw [z1p, List.length_map] at h3; exact h3
def zk3 : List D := [.int .i64 0, .int .i64 0, .int .i64 0, .int .i64 0, .str ByteArray.empty, .nil, .nil, .nil]
section
variable {H : HM} {n tb : Nat} {v : V}
theorem zcs (hs : szB (treeV v) = true) (htb : tb < n) (hH : H tb = some (treeB (.ptr v.num 0))) (hu : Under n v) (hst : Stand H v) {st : St} {H2 : HM} {n2 : Nat} (h2 : zc0 st H2 n2) (hle : n <= st.nx) (hag : Agree n H st.H) : RC prog 14 [.ptr tb 0] H2 n2 (z0m (treeV v)) := by
 have ha : Agree n H H2 := fun j hj => (h2.2 j (by omega)).trans (hag j hj)
 have := h2.1
 exact zgg hs (by omega) (by rw [ha _ htb]; exact hH) (hu.le (by omega)) (Stand.agree ha v hu hst)
theorem ztg (hs : szB (treeV v) = true) (hcn : cntT (treeV v) <= 1000000) (hd : depT (treeV v) <= 1000000) (hn : (idsT (treeV v)).Nodup) (htb : tb < n) (hH : H tb = some (treeB (.ptr v.num 0))) (hu : Under n v) (hst : Stand H v)
  (x : T) (hsx : szB x = true) (hcx : cntT x <= 1000000) (hdx : depT x <= 1000000) (parent : Idv) (i : Int) :
  Det 48 [.ptr tb 0, z0n parent, .int .i64 i, z0m x] H n (UpdOK (z25 (treeV v) parent i x) (z0p parent (z40 i.toNat x) (treeV v)) (parent :: z20 parent (treeV v)) v H n) := by
 have c1 := zuk (treeV v) x hs hsx hcn hcx hd hdx parent i
 obtain ⟨e, he⟩ : ∃ e, e = z25 (treeV v) parent i x := ⟨_, rfl⟩
 rw [<- he] at c1 ⊢
 generalize (if e ≠ 0 then T.zero else z0p parent (z40 i.toNat x) (treeV v)) = y at c1
 obtain ⟨H3, hH3⟩ : ∃ H3, H3 = z0k (z0k (z0k H n (some (idB parent))) (n + 1) (some (.box 3 [.int .i64 i]))) (n + 2) (some (unitB x)) := ⟨_, rfl⟩
 obtain ⟨H4, hH4⟩ : ∃ H4, H4 = z0k (z0k H3 (n + 3) (some (.box 27 zk3))) (n + 3) (some (unitB y)) := ⟨_, rfl⟩
 have hag3 : Agree n H H3 := fun j hj => by rw [hH3, z01 _ (by omega), z01 _ (by omega), z01 _ (by omega)]
 have hag4 : ∀ j, j < n + 3 -> H4 j = H3 j := fun j hj => by rw [hH4, z01 _ (by omega), z01 _ (by omega)]
 have hnb := z4h htb
 have hat := zg5 (e := e) (g := 96) (cap := [.ptr (n + 1) 0, .ptr (n + 2) 0]) (lo := n + 4) (id := parent) (E := insE i.toNat x) (Q := fun w w' => w'.own = w.own /\ ∃ g, treeV g = x /\ (objsV g).Nodup /\ (∀ j ∈ objsV g, n + 4 <= j) /\ w'.kids = zp8 i.toNat g w) (H0 := H4) (H := H4) (n := n + 4) (tb := tb) (v := v)
  (by omega) (by rw [hag4 _ (by omega), hag3 _ htb]; exact hH) hs (fun h0 w hw hwi => by
   obtain ⟨_, _, m, hi, hle⟩ := z3p (he.symm.trans h0)
   have hk := hle (treeV w) (by rw [z5q]; exact List.mem_map.2 ⟨w, hw, rfl⟩) (by rw [z2s]; exact hwi)
   rw [z1p, List.length_map] at hk
   have hit : i.toNat = m := by rw [hi]; rfl
   refine ⟨do_ins hsx ?_ (by omega) ?_ (by omega) (by omega) (zfd hs hw), eff_ins⟩
   ·rw [hag4 _ (by omega), hH3, z01 _ (by omega), z2u, hit, hi]
   ·rw [hag4 _ (by omega), hH3, z2u]) (Nat.le_refl _) (Agree.refl _ _) (Stand.agree (n := n) (fun j hj => by rw [hag4 j (by omega), hag3 j hj]) v hu hst) (hu.le (by omega))
 obtain ⟨o, hac, hok⟩ := hat
 refine ⟨o, ?_, ⟨by have := hok.le; omega, fun j hj => by rw [hok.agree j (by omega), hag4 j (by omega), hag3 j hj], hok.bad, fun h0 => ?_⟩⟩
 ·refine (z14 [11000014, 3000015, 3000016, 3000017, 5000018] func48 rfl (by decide +kernel) rfl ?_)
  show awp _ _ (Code.seq _ _) _ _
  repeat' (first | ((first | refine zqh fun K J => ?_ | refine zqe (by decide +kernel) fun K J => ?_); (simp (disch := omega) only [go_sem, Nat.reduceBEq, z0n, z07])) | (refine J _ ?_; clear J K))
  refine zc9 (fun H2 n2 h2 => zcs hs htb hH hu hst h2 (by (simp (disch := omega) only [go_sem]); omega) fun j hj => by (simp (disch := omega) only [go_sem]); simp (disch := omega) only [z3m]) rfl ?_
  (try (simp (disch := omega) only [go_sem, Nat.reduceBEq, Nat.reduceEqDiff, ↓reduceIte, Nat.reduceAdd, Nat.reduceLeDiff, hnb])); repeat' (first | ((first | refine zqh fun K J => ?_ | refine zqt (c1) ?_); (simp (disch := omega) only [go_sem, Nat.reduceBEq, Nat.reduceEqDiff, ↓reduceIte, Nat.reduceAdd, Nat.reduceLeDiff, hnb])) | (refine J _ ?_; clear J K))
  subst hH4; subst hH3
  refine z1m (hac.mono fun r' H' n' ⟨e1, e2, e3⟩ => ?_)
  rcases hok.shape with ⟨t, hd1⟩ | hd1
  all_goals
   rw [hd1] at e1
   subst e1; subst e2; subst e3
   (try (simp (disch := omega) only [go_sem, Nat.reduceBEq])); repeat' (first | refine zqn ?_ | refine zqu (by simp only [go_sem]; rfl) rfl ?_ | (refine J _ ?_; clear J K))
   rw [hd1]
   (simp (disch := omega) only [go_sem, Nat.reduceBEq])
 ·obtain ⟨_, hpm, m, hi, _⟩ := z3p (he.symm.trans h0)
  obtain ⟨v', t, g1, g2, g3, g4, g5, g6, g7⟩ := hok.good h0 hpm
  have hit : i.toNat = m := by rw [hi]; rfl
  have hw0 := he.symm.trans h0
  rw [hi] at hw0
  rw [hit] at g5 ⊢
  obtain ⟨k1, k2, k3⟩ := upd_ins (n := n) (m := n + 4) (lo := n + 4) hw0 hn hu (by omega) (by omega) g5
  exact ⟨v', t, g1, by omega, g3, g4, g6, g7, k1, k2, k3⟩
theorem zxs {u : T} {id : Idv} {name : ByteArray} (h : z9f u id name = 0) : standsT u = true /\ id ∈ idsT u /\ True := by
 unfold z9f at h
 split at h
 ·cases h
 rename_i h1
 split at h
 ·cases h
 rename_i h2
 refine ⟨?_, ?_, trivial⟩
 ·cases hs : standsT u with
  | true => rfl
  | false => exact absurd (.inl hs) h1
 ·rw [z27] at h2
  simpa using h2
theorem zol (hs : szB (treeV v) = true) (hcn : cntT (treeV v) <= 1000000) (hd : depT (treeV v) <= 1000000) (hn : (idsT (treeV v)).Nodup) (htb : tb < n) (hH : H tb = some (treeB (.ptr v.num 0))) (hu : Under n v) (hst : Stand H v)
  (id : Idv) (name : ByteArray) (hnm : name.size <= 1000000) :
  Det 51 [.ptr tb 0, z0n id, .str name] H n (UpdOK (z9f (treeV v) id name) (z0p id (fun q => q.setLabel name) (treeV v)) (id :: z20 id (treeV v)) v H n) := by
 have c1 := zty (treeV v) hs hcn hd id name hnm
 obtain ⟨e, he⟩ : ∃ e, e = z9f (treeV v) id name := ⟨_, rfl⟩
 rw [<- he] at c1 ⊢
 generalize (if e = 0 then z0p id (fun q => q.setLabel name) (treeV v) else T.zero) = y at c1
 obtain ⟨H3, hH3⟩ : ∃ H3, H3 = z0k (z0k H n (some (idB id))) (n + 1) (some (.box 9 [.str name])) := ⟨_, rfl⟩
 obtain ⟨H4, hH4⟩ : ∃ H4, H4 = z0k (z0k H3 (n + 2) (some (.box 27 zk3))) (n + 2) (some (unitB y)) := ⟨_, rfl⟩
 have hag3 : Agree n H H3 := fun j hj => by rw [hH3, z01 _ (by omega), z01 _ (by omega)]
 have hag4 : ∀ j, j < n + 2 -> H4 j = H3 j := fun j hj => by rw [hH4, z01 _ (by omega), z01 _ (by omega)]
 have hnb := z4h htb
 have hat := zg5 (e := e) (g := 100) (cap := [.ptr (n + 1) 0]) (lo := n + 3) (id := id) (E := fldE fun q => q.setLabel name) (Q := fun w w' => w'.own = w.own.setLabel name /\ w'.kids = w.kids) (H0 := H4) (H := H4) (n := n + 3) (tb := tb) (v := v)
  (by omega) (by rw [hag4 _ (by omega), hag3 _ htb]; exact hH) hs (fun h0 w hw hwi => ⟨do_rel (by rw [hag4 _ (by omega), hH3, z2u]) (by omega), zn9 (f := fun q => q.setLabel name) (fun q => ⟨rfl, rfl⟩)⟩) (Nat.le_refl _) (Agree.refl _ _) (Stand.agree (n := n) (fun j hj => by rw [hag4 j (by omega), hag3 j hj]) v hu hst) (hu.le (by omega))
 obtain ⟨o, hac, hok⟩ := hat
 refine ⟨o, ?_, ⟨by have := hok.le; omega, fun j hj => by rw [hok.agree j (by omega), hag4 j (by omega), hag3 j hj], hok.bad, fun h0 => ?_⟩⟩
 ·refine (z14 [11000012, 3000013, 3000014, 5000015] func51 rfl (by decide +kernel) rfl ?_)
  show awp _ _ (Code.seq _ _) _ _
  repeat' (first | ((first | refine zqh fun K J => ?_ | refine zqe (by decide +kernel) fun K J => ?_); (simp (disch := omega) only [go_sem, Nat.reduceBEq, z0n, z07])) | (refine J _ ?_; clear J K))
  refine zc9 (fun H2 n2 h2 => zcs hs htb hH hu hst h2 (by (simp (disch := omega) only [go_sem]); omega) fun j hj => by (simp (disch := omega) only [go_sem]); simp (disch := omega) only [z3m]) rfl ?_
  (try (simp (disch := omega) only [go_sem, Nat.reduceBEq, Nat.reduceEqDiff, ↓reduceIte, Nat.reduceAdd, Nat.reduceLeDiff, hnb])); repeat' (first | ((first | refine zqh fun K J => ?_ | refine zqt (c1) ?_); (simp (disch := omega) only [go_sem, Nat.reduceBEq, Nat.reduceEqDiff, ↓reduceIte, Nat.reduceAdd, Nat.reduceLeDiff, hnb])) | (refine J _ ?_; clear J K))
  subst hH4; subst hH3
  refine z1m (hac.mono fun r' H' n' ⟨e1, e2, e3⟩ => ?_)
  rcases hok.shape with ⟨t, hd1⟩ | hd1
  all_goals
   rw [hd1] at e1
   subst e1; subst e2; subst e3
   (try (simp (disch := omega) only [go_sem, Nat.reduceBEq])); repeat' (first | refine zqn ?_ | refine zqu (by simp only [go_sem]; rfl) rfl ?_ | (refine J _ ?_; clear J K))
   rw [hd1]
   (simp (disch := omega) only [go_sem, Nat.reduceBEq])
 ·obtain ⟨_, hpm, _⟩ := zxs (he.symm.trans h0)
  obtain ⟨v', t, g1, g2, g3, g4, g5, g6, g7⟩ := hok.good h0 hpm
  obtain ⟨k1, k2, k3⟩ := zou (n := n) (m := n + 3) (f := fun q => q.setLabel name) (fun _ _ => rfl) (fun _ => rfl) hn hu (by omega) g5
  exact ⟨v', t, g1, by omega, g3, g4, g6, g7, k1, k2, k3⟩
theorem za7 (hs : szB (treeV v) = true) (hcn : cntT (treeV v) <= 1000000) (hd : depT (treeV v) <= 1000000) (hn : (idsT (treeV v)).Nodup) (htb : tb < n) (hH : H tb = some (treeB (.ptr v.num 0))) (hu : Under n v) (hst : Stand H v)
  (id : Idv) (l : List Wd) (hl : l.length <= 1000000) (hw : ∀ w ∈ l, w.text.size <= maxLen) :
  Det 33 [.ptr tb 0, z0n id, z0r l] H n (UpdOK (z1k (treeV v) id l) (z0p id (fun q => q.setWords l) (treeV v)) (id :: z20 id (treeV v)) v H n) := by
 have c1 := znj (treeV v) hs hcn hd id l hl hw
 obtain ⟨e, he⟩ : ∃ e, e = z1k (treeV v) id l := ⟨_, rfl⟩
 rw [<- he] at c1 ⊢
 generalize (if e = 0 then z0p id (fun q => q.setWords l) (treeV v) else T.zero) = y at c1
 obtain ⟨H3, hH3⟩ : ∃ H3, H3 = z0k (z0k H n (some (idB id))) (n + 1) (some (.box 24 [z0r l])) := ⟨_, rfl⟩
 obtain ⟨H4, hH4⟩ : ∃ H4, H4 = z0k (z0k H3 (n + 2) (some (.box 27 zk3))) (n + 2) (some (unitB y)) := ⟨_, rfl⟩
 have hag3 : Agree n H H3 := fun j hj => by rw [hH3, z01 _ (by omega), z01 _ (by omega)]
 have hag4 : ∀ j, j < n + 2 -> H4 j = H3 j := fun j hj => by rw [hH4, z01 _ (by omega), z01 _ (by omega)]
 have hnb := z4h htb
 have hat := zg5 (e := e) (g := 91) (cap := [.ptr (n + 1) 0]) (lo := n + 3) (id := id) (E := fldE fun q => q.setWords l) (Q := fun w w' => w'.own = w.own.setWords l /\ w'.kids = w.kids) (H0 := H4) (H := H4) (n := n + 3) (tb := tb) (v := v)
  (by omega) (by rw [hag4 _ (by omega), hag3 _ htb]; exact hH) hs (fun h0 w hw hwi => ⟨do_words hl (by rw [hag4 _ (by omega), hH3, z2u]) (by omega), zn9 (f := fun q => q.setWords l) (fun q => ⟨rfl, rfl⟩)⟩) (Nat.le_refl _) (Agree.refl _ _) (Stand.agree (n := n) (fun j hj => by rw [hag4 j (by omega), hag3 j hj]) v hu hst) (hu.le (by omega))
 obtain ⟨o, hac, hok⟩ := hat
 refine ⟨o, ?_, ⟨by have := hok.le; omega, fun j hj => by rw [hok.agree j (by omega), hag4 j (by omega), hag3 j hj], hok.bad, fun h0 => ?_⟩⟩
 ·refine (z14 [11000012, 3000013, 3000014, 5000015] func33 rfl (by decide +kernel) rfl ?_)
  show awp _ _ (Code.seq _ _) _ _
  repeat' (first | ((first | refine zqh fun K J => ?_ | refine zqe (by decide +kernel) fun K J => ?_); (simp (disch := omega) only [go_sem, Nat.reduceBEq, z0n, z07])) | (refine J _ ?_; clear J K))
  refine zc9 (fun H2 n2 h2 => zcs hs htb hH hu hst h2 (by (simp (disch := omega) only [go_sem]); omega) fun j hj => by (simp (disch := omega) only [go_sem]); simp (disch := omega) only [z3m]) rfl ?_
  (try (simp (disch := omega) only [go_sem, Nat.reduceBEq, Nat.reduceEqDiff, ↓reduceIte, Nat.reduceAdd, Nat.reduceLeDiff, hnb])); repeat' (first | ((first | refine zqh fun K J => ?_ | refine zqt (c1) ?_); (simp (disch := omega) only [go_sem, Nat.reduceBEq, Nat.reduceEqDiff, ↓reduceIte, Nat.reduceAdd, Nat.reduceLeDiff, hnb])) | (refine J _ ?_; clear J K))
  subst hH4; subst hH3
  refine z1m (hac.mono fun r' H' n' ⟨e1, e2, e3⟩ => ?_)
  rcases hok.shape with ⟨t, hd1⟩ | hd1
  all_goals
   rw [hd1] at e1
   subst e1; subst e2; subst e3
   (try (simp (disch := omega) only [go_sem, Nat.reduceBEq])); repeat' (first | refine zqn ?_ | refine zqu (by simp only [go_sem]; rfl) rfl ?_ | (refine J _ ?_; clear J K))
   rw [hd1]
   (simp (disch := omega) only [go_sem, Nat.reduceBEq])
 ·obtain ⟨_, hpm, _⟩ := z8r (he.symm.trans h0)
  obtain ⟨v', t, g1, g2, g3, g4, g5, g6, g7⟩ := hok.good h0 hpm
  obtain ⟨k1, k2, k3⟩ := zou (n := n) (m := n + 3) (f := fun q => q.setWords l) (fun _ _ => rfl) (fun _ => rfl) hn hu (by omega) g5
  exact ⟨v', t, g1, by omega, g3, g4, g6, g7, k1, k2, k3⟩
theorem zhn (hs : szB (treeV v) = true) (hcn : cntT (treeV v) <= 1000000) (hd : depT (treeV v) <= 1000000) (hn : (idsT (treeV v)).Nodup) (htb : tb < n) (hH : H tb = some (treeB (.ptr v.num 0))) (hu : Under n v) (hst : Stand H v)
  (id : Idv) (l : List Wd) (hl : l.length <= 1000000) (hw : ∀ w ∈ l, w.text.size <= maxLen) :
  Det 52 [.ptr tb 0, z0n id, z0r l] H n (UpdOK (z1k (treeV v) id l) (z0p id (fun q => q.setHead l) (treeV v)) (id :: z20 id (treeV v)) v H n) := by
 have c1 := zj6 (treeV v) hs hcn hd id l hl hw
 obtain ⟨e, he⟩ : ∃ e, e = z1k (treeV v) id l := ⟨_, rfl⟩
 rw [<- he] at c1 ⊢
 generalize (if e = 0 then z0p id (fun q => q.setHead l) (treeV v) else T.zero) = y at c1
 obtain ⟨H3, hH3⟩ : ∃ H3, H3 = z0k (z0k H n (some (idB id))) (n + 1) (some (.box 24 [z0r l])) := ⟨_, rfl⟩
 obtain ⟨H4, hH4⟩ : ∃ H4, H4 = z0k (z0k H3 (n + 2) (some (.box 27 zk3))) (n + 2) (some (unitB y)) := ⟨_, rfl⟩
 have hag3 : Agree n H H3 := fun j hj => by rw [hH3, z01 _ (by omega), z01 _ (by omega)]
 have hag4 : ∀ j, j < n + 2 -> H4 j = H3 j := fun j hj => by rw [hH4, z01 _ (by omega), z01 _ (by omega)]
 have hnb := z4h htb
 have hat := zg5 (e := e) (g := 101) (cap := [.ptr (n + 1) 0]) (lo := n + 3) (id := id) (E := fldE fun q => q.setHead l) (Q := fun w w' => w'.own = w.own.setHead l /\ w'.kids = w.kids) (H0 := H4) (H := H4) (n := n + 3) (tb := tb) (v := v)
  (by omega) (by rw [hag4 _ (by omega), hag3 _ htb]; exact hH) hs (fun h0 w hw hwi => ⟨do_head hl (by rw [hag4 _ (by omega), hH3, z2u]) (by omega), zn9 (f := fun q => q.setHead l) (fun q => ⟨rfl, rfl⟩)⟩) (Nat.le_refl _) (Agree.refl _ _) (Stand.agree (n := n) (fun j hj => by rw [hag4 j (by omega), hag3 j hj]) v hu hst) (hu.le (by omega))
 obtain ⟨o, hac, hok⟩ := hat
 refine ⟨o, ?_, ⟨by have := hok.le; omega, fun j hj => by rw [hok.agree j (by omega), hag4 j (by omega), hag3 j hj], hok.bad, fun h0 => ?_⟩⟩
 ·refine (z14 [11000012, 3000013, 3000014, 5000015] func52 rfl (by decide +kernel) rfl ?_)
  show awp _ _ (Code.seq _ _) _ _
  repeat' (first | ((first | refine zqh fun K J => ?_ | refine zqe (by decide +kernel) fun K J => ?_); (simp (disch := omega) only [go_sem, Nat.reduceBEq, z0n, z07])) | (refine J _ ?_; clear J K))
  refine zc9 (fun H2 n2 h2 => zcs hs htb hH hu hst h2 (by (simp (disch := omega) only [go_sem]); omega) fun j hj => by (simp (disch := omega) only [go_sem]); simp (disch := omega) only [z3m]) rfl ?_
  (try (simp (disch := omega) only [go_sem, Nat.reduceBEq, Nat.reduceEqDiff, ↓reduceIte, Nat.reduceAdd, Nat.reduceLeDiff, hnb])); repeat' (first | ((first | refine zqh fun K J => ?_ | refine zqt (c1) ?_); (simp (disch := omega) only [go_sem, Nat.reduceBEq, Nat.reduceEqDiff, ↓reduceIte, Nat.reduceAdd, Nat.reduceLeDiff, hnb])) | (refine J _ ?_; clear J K))
  subst hH4; subst hH3
  refine z1m (hac.mono fun r' H' n' ⟨e1, e2, e3⟩ => ?_)
  rcases hok.shape with ⟨t, hd1⟩ | hd1
  all_goals
   rw [hd1] at e1
   subst e1; subst e2; subst e3
   (try (simp (disch := omega) only [go_sem, Nat.reduceBEq])); repeat' (first | refine zqn ?_ | refine zqu (by simp only [go_sem]; rfl) rfl ?_ | (refine J _ ?_; clear J K))
   rw [hd1]
   (simp (disch := omega) only [go_sem, Nat.reduceBEq])
 ·obtain ⟨_, hpm, _⟩ := z8r (he.symm.trans h0)
  obtain ⟨v', t, g1, g2, g3, g4, g5, g6, g7⟩ := hok.good h0 hpm
  obtain ⟨k1, k2, k3⟩ := zou (n := n) (m := n + 3) (f := fun q => q.setHead l) (fun _ _ => rfl) (fun _ => rfl) hn hu (by omega) g5
  exact ⟨v', t, g1, by omega, g3, g4, g6, g7, k1, k2, k3⟩
theorem ac_out (id : Idv) : AC prog 98 [z0n id] H n fun r H' n' => r = .fn 151 [.ptr n 0] /\ H' = z0k H n (some (idB id)) /\ n' = n + 1 := by
 refine (z14 [] func98 rfl (by decide +kernel) rfl ?_)
 show awp _ _ (Code.seq _ _) _ _
 repeat' (first | ((refine zqh fun K J => ?_); (simp (disch := omega) only [go_sem, Nat.reduceBEq, z0n, z07])) | refine zqn ?_ | refine zqu (by simp only [go_sem]; rfl) rfl ?_ | (refine J _ ?_; clear J K))
 (simp (disch := omega) only [go_sem, Nat.reduceBEq])
 rfl
theorem zth (hs : szB (treeV v) = true) (hcn : cntT (treeV v) <= 1000000) (hd : depT (treeV v) <= 1000000) (hn : (idsT (treeV v)).Nodup) (htb : tb < n) (hH : H tb = some (treeB (.ptr v.num 0))) (hu : Under n v) (hst : Stand H v) (id : Idv) :
  Det 49 [.ptr tb 0, z0n id] H n (UpdOK (z4l (treeV v) id) (z0i id (treeV v)) (z20 id (treeV v)) v H n) := by
 have c1 := zx1 (treeV v) hs hcn hd id
 have c2 := zcg (treeV v) (z8b _ hs) (by omega) id
 obtain ⟨e, he⟩ : ∃ e, e = z4l (treeV v) id := ⟨_, rfl⟩
 rw [<- he] at c1 ⊢
 generalize (if e = 0 then z0i id (treeV v) else T.zero) = y at c1
 generalize (if e = 0 then (z05 id (treeV v)).1 else T.zero) = z at c1
 obtain ⟨under, hund⟩ : ∃ under, under = (z4w id (treeV v)).1 := ⟨_, rfl⟩
 rw [<- hund] at c2
 obtain ⟨H1, hH1⟩ : ∃ H1, H1 = z0k (z0k (z0k H n (some (idB id))) (n + 1) (some (.box 27 zk3))) (n + 1) (some (unitB (treeV v))) := ⟨_, rfl⟩
 obtain ⟨H2, hH2⟩ : ∃ H2, H2 = z0k (z0k (z0k (z0k H1 (n + 2) (some (.box 27 zk3))) (n + 3) (some (.box 27 zk3))) (n + 2) (some (unitB y))) (n + 3) (some (unitB z)) := ⟨_, rfl⟩
 obtain ⟨H3, hH3⟩ : ∃ H3, H3 = z0k (z0k H2 (n + 4) (some (.box 23 [.int .i64 0, .int .i64 0, .int .i64 0]))) (n + 4) (some (idB under)) := ⟨_, rfl⟩
 obtain ⟨H4, hH4⟩ : ∃ H4, H4 = z0k H3 (n + 5) (some (idB id)) := ⟨_, rfl⟩
 have hag : ∀ j, j < n -> H4 j = H j := fun j hj => by
  rw [hH4, z01 _ (by omega), hH3, z01 _ (by omega), z01 _ (by omega), hH2, z01 _ (by omega), z01 _ (by omega), z01 _ (by omega), z01 _ (by omega), hH1, z01 _ (by omega), z01 _ (by omega), z01 _ (by omega)]
 have hnb := z4h htb
 have hat := zg5 (e := e) (g := 151) (cap := [.ptr (n + 5) 0]) (lo := n + 6) (id := under) (E := outE id) (Q := fun w w' => w'.own = w.own /\ w'.kids = outK id w) (H0 := H4) (H := H4) (n := n + 6) (tb := tb) (v := v)
  (by omega) (by rw [hag _ htb]; exact hH) hs (fun h0 w hw hwi => by
   obtain ⟨_, t2, t3⟩ := zg8 (he.symm.trans h0)
   obtain ⟨u2, q1, q2, q3, q4, ⟨q, q5, q6, k, q7, q8⟩, q9⟩ := zd2 hn t3 t2
   rw [<- hund] at q1
   subst q1
   have hwq : treeV w = q := z7p (f := T.id) hn _ (by rw [z5q]; exact List.mem_map.2 ⟨w, hw, rfl⟩) _ q5 (by rw [z2s, hwi, q6])
   have hk : ∃ k ∈ w.kids, k.own.id = id := by
    rw [<- hwq, z1p] at q7
    obtain ⟨k2, hk2, rfl⟩ := List.mem_map.1 q7
    exact ⟨k2, hk2, by rw [<- z2s]; exact q8⟩
   exact ⟨do_out (by rw [hH4, z2u]) (by omega) hk (zfd hs hw), zub hk⟩) (Nat.le_refl _) (Agree.refl _ _) (Stand.agree (n := n) hag v hu hst) (hu.le (by omega))
 obtain ⟨o, hac, hok⟩ := hat
 refine ⟨o, ?_, ⟨by have := hok.le; omega, fun j hj => by rw [hok.agree j (by omega), hag j hj], hok.bad, fun h0 => ?_⟩⟩
 ·have cU := zgg hs (n := n + 1) (H := z0k H n (some (idB id))) (tb := tb) (by omega) (by rw [z01 _ (by omega)]; exact hH) (hu.le (by omega)) (Stand.agree (n := n) (fun j hj => z01 _ (by omega)) v hu hst)
  unfold idB at cU
  refine (z14 [3000031, 3000032, 4000033, 10000033, 4000034, 10000034] func49 rfl (by decide +kernel) rfl ?_)
  show awp _ _ (Code.seq _ _) _ _
  have hnn := zr7 htb
  repeat' (first | ((first | refine zqh fun K J => ?_ | refine zqe (by decide +kernel) fun K J => ?_ | refine z1d (cU) ?_ | refine zqs (c1) ?_ | refine zqs (c2) ?_); (simp (disch := omega) only [go_sem, Nat.reduceBEq, Nat.reduceEqDiff, ↓reduceIte, Nat.reduceAdd, Nat.reduceLeDiff, hnn, z0n, z07])) | (refine J _ ?_; clear J K))
  refine z4o (ac_out id) rfl rfl rfl ⟨Nat.le_succ _, fun j hj => z01 _ (Nat.ne_of_lt hj)⟩ ?_
  (try (simp (disch := omega) only [go_sem, Nat.reduceBEq])); repeat' skip
  subst hH4; subst hH3; subst hH2; subst hH1
  have hle := hok.le
  refine z4o hac rfl rfl rfl ⟨by (simp (disch := omega) only [go_sem]); omega, fun j hj => hok.agree j hj⟩ ?_
  rcases hok.shape with ⟨t, hd1⟩ | hd1
  all_goals
   rw [hd1]
   (try (simp (disch := omega) only [go_sem, Nat.reduceBEq])); repeat' (first | refine zqn ?_ | refine zqu (by simp only [go_sem]; rfl) rfl ?_ | (refine J _ ?_; clear J K))
   rw [hd1]
   (simp (disch := omega) only [go_sem, Nat.reduceBEq])
 ·obtain ⟨_, t2, t3⟩ := zg8 (he.symm.trans h0)
  obtain ⟨u2, q1, q2, q3, q4, _, q9⟩ := zd2 hn t3 t2
  rw [<- hund] at q1
  subst q1
  obtain ⟨v', t, g1, g2, g3, g4, g5, g6, g7⟩ := hok.good h0 q2
  obtain ⟨k1, k2, k3⟩ := zyj (n := n) (m := n + 6) hn hu (by omega) q9 g5
  exact ⟨v', t, g1, by omega, g3, g4, g6, g7, k1, by rw [q3]; exact k2, k3⟩
end
end
section
open Abs Facts Tr
attribute [local irreducible] awp
set_option maxRecDepth 100000
section
variable {H : HM} {n tb : Nat} {v : V}
theorem det_Move (hs : szB (treeV v) = true) (hcn : cntT (treeV v) <= 1000000) (hd : depT (treeV v) <= 1000000) (hn : (idsT (treeV v)).Nodup) (htb : tb < n) (hH : H tb = some (treeB (.ptr v.num 0))) (hu : Under n v) (hst : Stand H v) (id parent : Idv) (i : Int) :
  Det 50 [.ptr tb 0, z0n id, z0n parent, .int .i64 i] H n (UpdOK (z33 (treeV v) id parent i) (z0p parent (z40 i.toNat (z05 id (treeV v)).1) (z0i id (treeV v))) (z20 id (treeV v) ++ parent :: z20 parent (treeV v)) v H n) := by
 have c1 := pc_Move (treeV v) hs hcn hd id parent i
 have c2 := zcg (treeV v) (z8b _ hs) (by omega) id
 obtain ⟨e, he⟩ : ∃ e, e = z33 (treeV v) id parent i := ⟨_, rfl⟩
 rw [<- he] at c1 ⊢
 generalize (if e = 0 then z0p parent (z40 i.toNat (z05 id (treeV v)).1) (z0i id (treeV v)) else T.zero) = y at c1
 obtain ⟨under, hund⟩ : ∃ under, under = (z4w id (treeV v)).1 := ⟨_, rfl⟩
 rw [<- hund] at c2
 obtain ⟨Ha, hHa⟩ : ∃ Ha, Ha = z0k (z0k (z0k H n (some (idB id))) (n + 1) (some (idB parent))) (n + 2) (some (.box 3 [.int .i64 i])) := ⟨_, rfl⟩
 have hagA : Agree n H Ha := fun j hj => by rw [hHa, z01 _ (by omega), z01 _ (by omega), z01 _ (by omega)]
 have cU := zgg hs (n := n + 3) (H := Ha) (tb := tb) (by omega) (by rw [hagA _ htb]; exact hH) (hu.le (by omega)) (Stand.agree hagA v hu hst)
 obtain ⟨H1, hH1⟩ : ∃ H1, H1 = z0k (z0k Ha (n + 3) (some (.box 27 zk3))) (n + 3) (some (unitB (treeV v))) := ⟨_, rfl⟩
 obtain ⟨H2, hH2⟩ : ∃ H2, H2 = z0k (z0k H1 (n + 4) (some (.box 27 zk3))) (n + 4) (some (unitB y)) := ⟨_, rfl⟩
 have hag2 : Agree n H H2 := fun j hj => by
  rw [hH2, z01 _ (by omega), z01 _ (by omega), hH1, z01 _ (by omega), z01 _ (by omega)]; exact hagA j hj
 have hnn := zr7 htb
 by_cases h0 : e = 0
 ·obtain ⟨m1, m2, m3, m4, m5, m6⟩ := za3 (he.symm.trans h0)
  obtain ⟨u2, q1, q2, q3, q4, ⟨q, q5, q6, k, q7, q8⟩, q9⟩ := zd2 hn m4 m2
  rw [<- hund] at q1
  subst q1
  obtain ⟨x, hxv, hxi, hfx, hrx⟩ : ∃ x ∈ nodesV v, x.own.id = id /\ z9l id v = .ptr x.num 0 /\ z05 id (treeV v) = (treeV x, true) := by
   rcases ztb hn id with ⟨_, hf⟩ | h
   ·have := z27 (id := id) (u := treeV v)
    rw [hf, decide_eq_true m2] at this; cases this
   ·exact h
  obtain ⟨H3, hH3⟩ : ∃ H3, H3 = z0k (z0k H2 (n + 5) (some (.box 23 [.int .i64 0, .int .i64 0, .int .i64 0]))) (n + 5) (some (idB under)) := ⟨_, rfl⟩
  have hag3 : Agree n H H3 := fun j hj => by rw [hH3, z01 _ (by omega), z01 _ (by omega)]; exact hag2 j hj
  have cF : ∀ (H' : HM) (n' : Nat), n <= n' -> Agree n H H' -> RC prog 44 [.ptr v.num 0, z0n id] H' n' (.ptr x.num 0) := fun H' n' hle ha => by
   have := rc_find id v hs H' n' (hu.le hle) (Stand.agree ha v hu hst)
   rw [hfx] at this; exact this
  obtain ⟨H4, hH4⟩ : ∃ H4, H4 = z0k (z0k H3 (n + 6) (some (.box 75 [.nptr]))) (n + 6) (some (.box 75 [.ptr x.num 0])) := ⟨_, rfl⟩
  obtain ⟨H5, hH5⟩ : ∃ H5, H5 = z0k H4 (n + 7) (some (idB id)) := ⟨_, rfl⟩
  have hag5 : Agree n H H5 := fun j hj => by rw [hH5, z01 _ (by omega), hH4, z01 _ (by omega), z01 _ (by omega)]; exact hag3 j hj
  have hH5a : H5 (n + 2) = some (.box 3 [.int .i64 i]) := by
   rw [hH5, z01 _ (by omega), hH4, z01 _ (by omega), z01 _ (by omega), hH3, z01 _ (by omega), z01 _ (by omega), hH2, z01 _ (by omega), z01 _ (by omega), hH1, z01 _ (by omega), z01 _ (by omega), hHa, z2u]
  have hH5p : H5 (n + 1) = some (idB parent) := by
   rw [hH5, z01 _ (by omega), hH4, z01 _ (by omega), z01 _ (by omega), hH3, z01 _ (by omega), z01 _ (by omega), hH2, z01 _ (by omega), z01 _ (by omega), hH1, z01 _ (by omega), z01 _ (by omega), hHa, z01 _ (by omega), z2u]
  have hH5b : H5 (n + 6) = some (.box 75 [.ptr x.num 0]) := by rw [hH5, z01 _ (by omega), hH4, z2u]
  -- the unit is taken out
  have hat := zg5 (e := 0) (g := 151) (cap := [.ptr (n + 7) 0]) (lo := n + 8) (id := under) (E := outE id) (Q := fun w w' => w'.own = w.own /\ w'.kids = outK id w) (H0 := H5) (H := H5) (n := n + 8) (tb := tb) (v := v)
   (by omega) (by rw [hag5 _ htb]; exact hH) hs (fun _ w hw hwi => by
    have hwq : treeV w = q := z7p (f := T.id) hn _ (by rw [z5q]; exact List.mem_map.2 ⟨w, hw, rfl⟩) _ q5 (by rw [z2s, hwi, q6])
    have hk : ∃ k ∈ w.kids, k.own.id = id := by
     rw [<- hwq, z1p] at q7
     obtain ⟨k2, hk2, rfl⟩ := List.mem_map.1 q7
     exact ⟨k2, hk2, by rw [<- z2s]; exact q8⟩
    exact ⟨do_out (by rw [hH5, z2u]) (by omega) hk (zfd hs hw), zub hk⟩) (Nat.le_refl _) (Agree.refl _ _) (Stand.agree hag5 v hu hst) (hu.le (by omega))
  obtain ⟨o1, hac1, hok1⟩ := hat
  obtain ⟨r, t1, g1, g2, g3, g4, g5, g6, g7⟩ := hok1.good rfl q2
  have hout := zyj (n := n) (m := n + 8) hn hu (by omega) q9 g5
  obtain ⟨⟨_, w2, w3, _⟩, w5, m, hi, hle⟩ := z3p m6
  have hsr : szB (treeV r) = true := by rw [hout.1]; exact zfi _ hs
  have hnr : (idsT (treeV r)).Nodup := by rw [hout.1]; exact z17 (by assumption)
  have hit : i.toNat = m := by rw [hi]; rfl
  have hle1 := hok1.le
  -- and put in
  have hat2 := zg5 (e := 0) (g := 99) (cap := [.ptr (n + 2) 0, .ptr (n + 6) 0]) (lo := o1.2.2) (id := parent) (E := movE i.toNat x) (Q := fun w w' => w'.own = w.own /\ w'.kids = zp8 i.toNat x w) (H0 := o1.2.1) (H := o1.2.1) (n := o1.2.2) (tb := t1) (v := r)
   (by omega) g4 hsr (fun _ w hw hwi => by
    have hk := hle (treeV w) (by rw [<- hout.1, z5q]; exact List.mem_map.2 ⟨w, hw, rfl⟩) (by rw [z2s]; exact hwi)
    rw [z1p, List.length_map] at hk
    have hxs : Stand o1.2.1 x := Stand.agree (n := n) (fun j hj => by rw [hok1.agree j (by omega)]; exact hag5 j hj) x (z3e hu hxv) (z5r v hst x hxv)
    have hxu : Under o1.2.2 x := (z3e hu hxv).le (by omega)
    exact ⟨do_mov (by rw [hok1.agree _ (by omega), hH5a, hit, hi]) (by omega) (by rw [hok1.agree _ (by omega), hH5b]) (by omega) hxs hxu (by omega) (zfd hsr hw), eff_mov hxs hxu⟩) (Nat.le_refl _) (Agree.refl _ _) g6 g7
  obtain ⟨o2, hac2, hok2⟩ := hat2
  refine ⟨o2, ?_, ⟨by have := hok2.le; omega, fun j hj => by rw [hok2.agree j (by omega), hok1.agree j (by omega)]; exact hag5 j hj, fun h => absurd h0 h, fun _ => ?_⟩⟩
  ·subst h0
   refine (z14 [8000000, 3000042, 3000043, 11000044, 3000047, 3000048, 4000049, 10000049, 4000050, 10000050] func50 rfl (by decide +kernel) rfl ?_)
   show awp _ _ (Code.seq _ _) _ _
   subst hHa
   unfold idB at cU
   repeat' (first | refine zqj ?_ | ((first | refine zqh fun K J => ?_ | refine zqe (by decide +kernel) fun K J => ?_ | refine z1d (cU) ?_ | refine zqs (c1) ?_ | refine zqs (c2) ?_); (simp (disch := omega) only [go_sem, Nat.reduceBEq, Nat.reduceEqDiff, ↓reduceIte, reduceCtorEq, Nat.reduceAdd, Nat.reduceLeDiff, hH, hnn, treeB, z0n, z07])) | ((refine zqd _ rfl (fun hc => ?_) (fun hc => ?_)) <;> (first | (cases hc; done) | ((try simp only [] at hc); (try omega)))) | refine zqb ?_ | (refine J _ ?_; clear J K))
   refine zc9 (fun H' n' h2 => cF H' n' (Nat.le_trans (by (simp (disch := omega) only [go_sem]) <;> omega) h2.1) fun j hj => (h2.2 j (by (simp (disch := omega) only [go_sem]) <;> omega)).trans (by (simp (disch := omega) only [go_sem]); simp (disch := omega) only [z3m])) rfl ?_
   (try (simp (disch := omega) only [go_sem, Nat.reduceBEq, Nat.reduceEqDiff, ↓reduceIte, Nat.reduceAdd, Nat.reduceLeDiff, Nat.reduceLT, hnn])); repeat' (first | ((refine zqe (by decide +kernel) fun K J => ?_); (simp (disch := omega) only [go_sem, Nat.reduceBEq, Nat.reduceEqDiff, ↓reduceIte, Nat.reduceAdd, Nat.reduceLeDiff, hnn])) | (refine J _ ?_; clear J K))
   refine z4o (ac_out id) rfl rfl rfl ⟨Nat.le_succ _, fun j hj => z01 _ (Nat.ne_of_lt hj)⟩ ?_
   (try (simp (disch := omega) only [go_sem, Nat.reduceBEq])); repeat' skip
   subst hH5; subst hH4; subst hH3; subst hH2; subst hH1
   refine z4o hac1 rfl rfl rfl ⟨by (simp (disch := omega) only [go_sem]) <;> omega, fun j hj => hok1.agree j hj⟩ ?_
   have f6 := (hok1.agree (n + 1) (by omega)).trans hH5p
   rw [g1]
   (try (simp (disch := omega) only [go_sem, Nat.reduceBEq, idB, z07])); repeat' (first | ((refine zqh fun K J => ?_); (simp (disch := omega) only [go_sem, Nat.reduceBEq, ↓reduceIte, Nat.reduceAdd, Nat.reduceLeDiff, f6, idB, z07])) | (refine J _ ?_; clear J K))
   refine z1m (hac2.mono fun r' H' n' ⟨e1, e2, e3⟩ => ?_)
   rcases hok2.shape with ⟨t, hd1⟩ | hd1
   all_goals
    rw [hd1] at e1
    subst e1; subst e2; subst e3
    (try (simp (disch := omega) only [go_sem, Nat.reduceBEq])); repeat' (first | refine zqn ?_ | refine zqu (by simp only [go_sem]; rfl) rfl ?_ | (refine J _ ?_; clear J K))
    rw [hd1]
    (simp (disch := omega) only [go_sem, Nat.reduceBEq])
  ·rw [hit] at hok2 ⊢
   obtain ⟨v', t, p1, p2, p3, p4, p5, p6, p7⟩ := hok2.good rfl (by rw [hout.1]; exact w5)
   obtain ⟨k1, k2, k3⟩ := upd_mov (n := n) (m := n + 8) (m2 := o1.2.2) (n2 := o1.2.2) (at_ := m) m1 m4 m2 m3 m5 q3 q2 q4 (by rw [hrx]) hxv hu (by omega) hout hnr g7 (by omega) (Nat.le_refl _) p5
   exact ⟨v', t, p1, by omega, p3, p4, p6, p7, k1, k2, k3⟩
 ·refine ⟨(.tup [.nptr, .int .i64 e], H2, n + 5), ?_, ⟨by simp, hag2, fun _ => rfl, fun h => absurd h h0⟩⟩
  refine (z14 [8000000, 3000042, 3000043, 11000044, 3000047, 3000048, 4000049, 10000049, 4000050, 10000050] func50 rfl (by decide +kernel) rfl ?_)
  show awp _ _ (Code.seq _ _) _ _
  subst hHa
  unfold idB at cU
  repeat' (first | refine zqj ?_ | ((first | refine zqh fun K J => ?_ | refine z1d (cU) ?_ | refine zqs (c1) ?_); (simp (disch := omega) only [go_sem, Nat.reduceBEq, ↓reduceIte, Nat.reduceAdd, Nat.reduceLeDiff, hnn, z0n, z07])) | ((refine zqd _ rfl (fun hc => ?_) (fun hc => ?_)) <;> (((try simp only [z0b] at hc); (try omega)))) | refine zqg ?_ | refine zqu (by simp only [go_sem]; rfl) rfl ?_ | (refine J _ ?_; clear J K))
  (simp (disch := omega) only [go_sem, Nat.reduceBEq])
  rw [hH2, hH1]
  rfl
end
end
section
open Abs Facts Tr
namespace Tr
theorem cap_len {s : ByteArray} (h : z4f s = true) : s.size <= 7 := by
 unfold z4f at h
 simp only [Bool.and_eq_true, decide_eq_true_eq] at h
 omega
theorem zul {l : List Wd} (h : zij l = true) : l.length <= 256 /\ ∀ w ∈ l, w.text.size <= 24 := by
 unfold zij at h
 simp only [Bool.and_eq_true, decide_eq_true_eq, List.all_eq_true] at h
 refine ⟨h.1, fun w hw => ?_⟩
 have := h.2 w hw
 unfold z6e at this
 simp only [Bool.and_eq_true, decide_eq_true_eq] at this
 omega
theorem zzn : ∀ t : T, z3r t = true -> szB t = true := by
 refine z5c fun t ih h => ?_
 rw [z4n] at h
 simp only [Bool.and_eq_true, List.all_eq_true] at h
 obtain ⟨ha, _, hk, _⟩ := h
 unfold z3d at ha
 simp only [Bool.and_eq_true, decide_eq_true_eq] at ha
 obtain ⟨_, h1, h2, h3, h4⟩ := ha
 obtain ⟨a1, a2⟩ := zul h2
 obtain ⟨b1, b2⟩ := zul h3
 refine (z2i t).2 ⟨?_, by omega, fun w hw => by have := a2 w hw; omega, by omega, fun w hw => by have := b2 w hw; omega, by omega, fun k hk' => ih k hk' (hk k hk')⟩
 split at h4
 ·simp only [Bool.and_eq_true, decide_eq_true_eq] at h4
  rw [h4.1]; decide
 ·have := cap_len h4; omega
theorem z66 {t : T} (h : standsT t = true) : szB t = true /\ cntT t <= 1024 /\ depT t <= 8 :=
 ⟨zzn t ((z1v t).1 h).1, ((z1v t).1 h).2.2.1, ((z1v t).1 h).2.1⟩
theorem znh {u : T} {id : Idv} {l : List Wd} (h : z1k u id l = 0) : standsT (z0p id (fun q => q.setHead l) u) = true := by
 obtain ⟨h1, hm, h3, h4, h5⟩ := z8r h
 obtain ⟨C, e, hq, hpre, _⟩ := focus id u hm
 generalize (z05 id u).1 = q at e hq h4
 have hpost : id ∉ z3z C := (z2z (x := q) (by rw [<- e]; exact z17 h1) (hq ▸ z1q q)).2
 rw [e, z57 (fun q => q.setHead l) hq C hpre hpost]
 rw [e] at h1
 refine zdy h1 rfl rfl rfl ?_ (fun h => h)
 have hr := ((z1v _).1 h1).1
 rw [z3c] at hr
 have ha := (z9r hr.2).1
 unfold z3d at ha ⊢
 simp only [Bool.and_eq_true, decide_eq_true_eq] at ha ⊢
 obtain ⟨a1, a2, a3, a4, a5⟩ := ha
 refine ⟨a1, a2, ?_, a4, ?_⟩
 ·show zij l = true
  unfold zij
  rw [decide_eq_true h5, Bool.true_and, List.all_eq_true]
  intro w hw
  unfold zu6 at h3
  have := List.any_eq_false.1 h3 w hw
  simpa using this
 ·rw [if_neg h4] at a5
  rw [if_neg (show ¬ (q.setHead l).kind = 0 from h4)]; exact a5
end Tr
end
section
open Abs Facts Tr
attribute [local irreducible] awp
set_option maxRecDepth 100000
structure Up where
 kind : Int
 id : Idv
 parent : Idv
 at_ : Int
 x : T
 label : ByteArray
 w : List Wd
def zbm (o : Up) : List D := .int .u8 o.kind :: .int .i64 o.id.act :: .int .i64 o.id.item :: .int .i64 o.id.n :: .int .i64 o.parent.act :: .int .i64 o.parent.item :: .int .i64 o.parent.n :: .int .i64 o.at_ :: (z0h o.x ++ [.str o.label, z0r o.w])
def z3a (o : Up) : D := .agg (zbm o)
def z5k (l : List Up) : D := .rsl false 18 (l.map z3a)
theorem z3h (o : Up) : zbm o = [.int .u8 o.kind, .int .i64 o.id.act, .int .i64 o.id.item, .int .i64 o.id.n, .int .i64 o.parent.act, .int .i64 o.parent.item, .int .i64 o.parent.n, .int .i64 o.at_, .int .i64 o.x.id.act, .int .i64 o.x.id.item, .int .i64 o.x.id.n, .int .i64 o.x.kind, .str o.x.label, z0r o.x.head, z0r o.x.words, z13 o.x.kids, .str o.label, z0r o.w] := by
 unfold zbm; rw [z0f]; rfl
theorem z52 (o : Up) : pureD (z3a o) = true := by
 unfold z3a
 rw [z3h]
 simp only [pureD, pureD.pureL, z0d, z0t, Bool.and_self]
theorem zh0 (l : List Up) : pureD (z5k l) = true := z0x (f := z3a) z52 l
structure UpIn (o : Up) : Prop where
 ft : fitB o.x = true
 lb : o.label.size <= maxLen
 wl : o.w.length <= maxLen
 wt : ∀ w ∈ o.w, w.text.size <= maxLen
 at_ : -9223372036854775808 <= o.at_ /\ o.at_ <= 9223372036854775807
 k0 : 0 <= o.kind /\ o.kind <= 255
def zmw (o : Up) : Bool := fewB o.x 12 && (decide (o.label.size <= 40) && decide (o.w.length <= 20))
structure UpOK (o : Up) : Prop where
 sz : szB o.x = true
 cn : cntT o.x <= 12
 dp : depT o.x <= 20
 lb : o.label.size <= 40
 wl : o.w.length <= 20
 wt : ∀ w ∈ o.w, w.text.size <= maxLen
 at_ : -9223372036854775808 <= o.at_ /\ o.at_ <= 9223372036854775807
 k0 : 0 <= o.kind /\ o.kind <= 255
theorem few_ok {o : Up} (hi : UpIn o) (h : zmw o = true) : UpOK o := by
 unfold zmw at h
 simp only [Bool.and_eq_true, decide_eq_true_eq] at h
 obtain ⟨s1, s2, s3⟩ := few_sz (by omega) (by omega) h.1
 exact ⟨s1, by omega, s3, h.2.1, h.2.2, hi.wt, hi.at_, hi.k0⟩
theorem pc_few15 (u : T) (hu : fitB u = true) (l : List Up) (hl : l.length <= maxLen) (hin : ∀ o ∈ l, UpIn o) : PC prog 19 [z0m u, z5k l] (.bool (l.all zmw && (decide (l.length <= 12) && fewB u 40))) := by
 unfold maxLen at hl
 have c1 := pc_Few u hu 40 (by omega) (by omega)
 refine z1g 1 (by simp only [pureD.pureL, zh0, z02, Bool.and_self]) rfl (z14 [] func19 rfl (by decide +kernel) rfl ?_)
 show awp _ _ (Code.seq _ _) _ _
 repeat' (first | refine zqj ?_ | ((refine zqh fun K J => ?_); (simp (disch := omega) only [go_sem, z5k])) | refine zqa ?_ | (refine J _ ?_; clear J K))
 (refine z4m (fun U st => ∃ (i : _), U = l.length - i /\ st.t 1 = .rsl false 18 (l.map z3a) /\ st.t 2 = .ptr 0 0 /\ st.t 5 = .int .i64 i /\ st.H 0 = some (.box 27 (z0h u)) /\ (i <= l.length) /\ ((l.take i).all zmw = true)) ?_ ?_); rotate_left; (rintro U st ⟨i, rfl, q1, q2, q5, qH0, qp0, qp1⟩); rotate_left
 ·(refine ⟨_, 0, rfl, ?_⟩); (simp (disch := omega) only [go_sem, Nat.reduceBEq, true_and, Int.natCast_zero])
  rfl
 by_cases hi : i < l.length
 ·have hg := (show (l.map z3a)[i]? = some (z3a l[i]) from by rw [List.getElem?_map, List.getElem?_eq_getElem hi]; rfl)
  have htk := List.take_succ_eq_append_getElem hi
  have hui := hin l[i] (List.getElem_mem hi)
  have hcu := z3h l[i]
  have c2 := pc_Few l[i].x hui.ft 12 (by omega) (by omega)
  rw [z0m, z0f] at c2
  have hb1 := hui.lb
  have hb2 := hui.wl
  unfold maxLen at hb1 hb2
  have hall : (l.take (i + 1)).all zmw = zmw l[i] := by rw [htk, List.all_append, qp1]; simp
  have hno : zmw l[i] = false -> l.all zmw = false := fun h => by
   rw [List.all_eq_false]
   exact ⟨l[i], List.getElem_mem hi, by rw [h]; simp⟩
  cases hf : fewB l[i].x 12 with
  | false =>
   rw [hf] at c2
   have h1 : zmw l[i] = false := by unfold zmw; rw [hf]; rfl
   rw [hno h1]
   repeat' (first | refine zqj ?_ | ((first | refine zqh fun K J => ?_ | refine zqs (c2) ?_); (simp (disch := omega) only [go_sem, Nat.reduceBEq, ↓reduceIte, reduceCtorEq, Nat.reduceAdd, Nat.reduceLeDiff, q1, q5, z3a, hcu, z0r])) | ((first | refine zqd _ rfl (fun hc => ?_) (fun hc => ?_) | refine zqm _ rfl (fun hc => ?_) (fun hc => ?_)) <;> (first | (cases hc; done) | ((try simp only [z0b] at hc); (try omega)))) | refine zqa ?_ | refine zqb ?_ | refine zqn ?_ | refine zqx ?_ | refine z6q ?_ | refine zqo ?_ | refine zqu (by simp only [go_sem]; rfl) rfl ?_ | (refine J _ ?_; clear J K))
   exact z03 rfl
  | true =>
   rw [hf] at c2
   by_cases hz : l[i].label.size <= 40
   ·by_cases hw : l[i].w.length <= 20
    ·have h1 : zmw l[i] = true := by unfold zmw; rw [hf, decide_eq_true hz, decide_eq_true hw]; rfl
     repeat' (first | refine zqj ?_ | ((first | refine zqh fun K J => ?_ | refine zqr fun K J => ?_ | refine zqs (c2) ?_); (simp (disch := omega) only [go_sem, Nat.reduceBEq, ↓reduceIte, reduceCtorEq, Nat.reduceAdd, Nat.reduceLeDiff, q1, q5, z3a, hcu, z0r])) | ((first | refine zqd _ rfl (fun hc => ?_) (fun hc => ?_) | refine zqm _ rfl (fun hc => ?_) (fun hc => ?_)) <;> (((try simp only [z0b] at hc); (try omega)))) | refine zqa ?_ | refine zqb ?_ | refine zqk ?_ | refine zqv ?_ | refine zqy ?_ | (refine J _ ?_; clear J K) | (refine zqf (fun hb => ?_) (fun hb => ?_) <;> (have hb2 := hb; try simp only [z0b] at hb2) <;> ((first | have hb3 := eq_false hb2 | have hb3 := eq_true hb2); (simp (disch := omega) only [go_sem, Nat.reduceBEq, ↓reduceIte, reduceCtorEq, Nat.reduceAdd, hb3, q1, q5, z3a, hcu, z0r]); clear hb hb3; (try omega))))
     (refine Exists.intro _ (And.intro ?_ ⟨i + 1, rfl, ?_⟩)); rotate_left; (simp (disch := omega) only [go_sem, Nat.reduceBEq, q1, q2, q5, qH0, true_and, Int.natCast_add, Int.natCast_one]); rotate_left
     ·omega
     ·exact ⟨by omega, by rw [hall, h1]⟩
    ·have h1 : zmw l[i] = false := by unfold zmw; rw [decide_eq_false hw, Bool.and_false, Bool.and_false]
     rw [hno h1]
     repeat' (first | refine zqj ?_ | ((first | refine zqh fun K J => ?_ | refine zqs (c2) ?_); (simp (disch := omega) only [go_sem, Nat.reduceBEq, ↓reduceIte, reduceCtorEq, Nat.reduceAdd, Nat.reduceLeDiff, q1, q5, z3a, hcu, z0r])) | ((first | refine zqd _ rfl (fun hc => ?_) (fun hc => ?_) | refine zqm _ rfl (fun hc => ?_) (fun hc => ?_)) <;> (((try simp only [z0b] at hc); (try omega)))) | refine zqa ?_ | refine zqb ?_ | refine zqn ?_ | refine zqx ?_ | refine z6q ?_ | refine zqo ?_ | refine zqu (by simp only [go_sem]; rfl) rfl ?_ | (refine J _ ?_; clear J K) | (refine zqf (fun hb => ?_) (fun hb => ?_) <;> (have hb2 := hb; try simp only [z0b] at hb2) <;> ((first | have hb3 := eq_false hb2 | have hb3 := eq_true hb2); (simp (disch := omega) only [go_sem, Nat.reduceBEq, ↓reduceIte, reduceCtorEq, Nat.reduceAdd, hb3, q1, q5, z3a, hcu, z0r]); clear hb hb3; (try omega))))
     exact z03 rfl
   ·have h1 : zmw l[i] = false := by unfold zmw; rw [decide_eq_false hz, Bool.false_and, Bool.and_false]
    rw [hno h1]
    repeat' (first | refine zqj ?_ | ((first | refine zqh fun K J => ?_ | refine zqs (c2) ?_); (simp (disch := omega) only [go_sem, Nat.reduceBEq, ↓reduceIte, reduceCtorEq, Nat.reduceAdd, Nat.reduceLeDiff, q1, q5, z3a, hcu, z0r])) | ((first | refine zqd _ rfl (fun hc => ?_) (fun hc => ?_) | refine zqm _ rfl (fun hc => ?_) (fun hc => ?_)) <;> (first | (cases hc; done) | ((try simp only [z0b] at hc); (try omega)))) | refine zqa ?_ | refine zqb ?_ | refine zqn ?_ | refine zqx ?_ | refine z6q ?_ | refine zqo ?_ | refine zqu (by simp only [go_sem]; rfl) rfl ?_ | (refine J _ ?_; clear J K) | (refine zqf (fun hb => ?_) (fun hb => ?_) <;> (have hb2 := hb; try simp only [z0b] at hb2) <;> ((first | have hb3 := eq_false hb2 | have hb3 := eq_true hb2); (simp (disch := omega) only [go_sem, Nat.reduceBEq, ↓reduceIte, reduceCtorEq, Nat.reduceAdd, hb3, q1, q5, z3a, hcu, z0r]); clear hb hb3; (try omega))))
    exact z03 rfl
 ·rw [List.take_of_length_le (by omega)] at qp1
  rw [qp1, Bool.true_and]
  by_cases hl2 : l.length <= 12
  ·repeat' (first | refine zqj ?_ | ((first | refine zqh fun K J => ?_ | refine zqs (c1) ?_); (simp (disch := omega) only [go_sem, Nat.reduceBEq, ↓reduceIte, q1, q5])) | ((refine zqd _ rfl (fun hc => ?_) (fun hc => ?_)) <;> (((try simp only [z0b] at hc); (try omega)))) | refine zqc ?_ | refine zqn ?_ | refine zqv ?_ | refine zqz ?_ | refine zqp ?_ | refine zqu (by simp only [go_sem]; rfl) rfl ?_ | (refine J _ ?_; clear J K) | (refine zqf (fun hb => ?_) (fun hb => ?_) <;> (have hb2 := hb; try simp only [z0b] at hb2) <;> ((first | have hb3 := eq_false hb2 | have hb3 := eq_true hb2); (simp (disch := omega) only [go_sem, Nat.reduceBEq, ↓reduceIte, Nat.reduceAdd, Nat.reduceLeDiff, hb3, q2, qH0]); clear hb hb3; (try omega))))
   all_goals exact z03 (by rw [decide_eq_true hl2, Bool.true_and])
  ·repeat' (first | refine zqj ?_ | ((refine zqh fun K J => ?_); (simp (disch := omega) only [go_sem, Nat.reduceBEq, ↓reduceIte, q1, q5])) | ((refine zqd _ rfl (fun hc => ?_) (fun hc => ?_)) <;> (((try simp only [z0b] at hc); (try omega)))) | refine zqc ?_ | refine zqn ?_ | refine zqv ?_ | refine zqz ?_ | refine zqp ?_ | refine zqu (by simp only [go_sem]; rfl) rfl ?_ | (refine J _ ?_; clear J K) | (refine zqf (fun hb => ?_) (fun hb => ?_) <;> (have hb2 := hb; try simp only [z0b] at hb2) <;> ((first | have hb3 := eq_false hb2 | have hb3 := eq_true hb2); (simp (disch := omega) only [go_sem, Nat.reduceBEq, ↓reduceIte, Nat.reduceAdd, Nat.reduceLeDiff, hb3, q2, qH0]); clear hb hb3; (try omega))))
   all_goals exact z03 (by rw [decide_eq_false hl2, Bool.false_and])
def opE (u : T) (o : Up) : Int := if o.kind = 0 then z25 u o.parent o.at_ o.x else if o.kind = 1 then z4l u o.id else if o.kind = 2 then z33 u o.id o.parent o.at_ else if o.kind = 3 then z9f u o.id o.label else if o.kind = 4 \/ o.kind = 5 then z1k u o.id o.w else 1
def opT (u : T) (o : Up) : T := if o.kind = 0 then z0p o.parent (z40 o.at_.toNat o.x) u else if o.kind = 1 then z0i o.id u else if o.kind = 2 then z0p o.parent (z40 o.at_.toNat (z05 o.id u).1) (z0i o.id u) else if o.kind = 3 then z0p o.id (fun q => q.setLabel o.label) u else if o.kind = 4 then z0p o.id (fun q => q.setWords o.w) u else if o.kind = 5 then z0p o.id (fun q => q.setHead o.w) u else u
def opM (u : T) (o : Up) : List Idv := if o.kind = 0 then o.parent :: z20 o.parent u else if o.kind = 1 then z20 o.id u else if o.kind = 2 then z20 o.id u ++ o.parent :: z20 o.parent u else o.id :: z20 o.id u
theorem zye {u : T} {o : Up} (h : opE u o = 0) : standsT (opT u o) = true := by
 unfold opE at h
 unfold opT
 by_cases k0 : o.kind = 0
 ·rw [if_pos k0] at h ⊢
  obtain ⟨_, _, m, hm, _⟩ := z3p h
  rw [hm] at h ⊢
  obtain ⟨_, _, _, _, _, _, _, _, f1, _⟩ := z7g h
  exact f1
 rw [if_neg k0] at h ⊢
 by_cases k1 : o.kind = 1
 ·rw [if_pos k1] at h ⊢; exact (ztd h).1
 rw [if_neg k1] at h ⊢
 by_cases k2 : o.kind = 2
 ·rw [if_pos k2] at h ⊢; exact (zxu h).1
 rw [if_neg k2] at h ⊢
 by_cases k3 : o.kind = 3
 ·rw [if_pos k3] at h ⊢; exact (zxt h).1
 rw [if_neg k3] at h ⊢
 by_cases k4 : o.kind = 4
 ·rw [if_pos (.inl k4)] at h
  rw [if_pos k4]; exact (zxr h).1
 by_cases k5 : o.kind = 5
 ·rw [if_pos (.inr k5)] at h
  rw [if_neg k4, if_pos k5]; exact znh h
 rw [if_neg (by omega)] at h
 cases h
end
end Go.Proofs.YtmnabhhdiinfaaaGreatDoor
namespace Go.Proofs.YtmnabhhdiinfaaaGreatDoor.Glue
open Go.ChangeShapes Go.WideShapes Go.ChangeAt Go.RowKit Abs Facts Tr
set_option maxRecDepth 100000
def S15 : List TypeId := [4, 3, 5, 9, 23, 70, 72, 24, 27, 25, 53, 41]
theorem zue : zga Tryz.prog S15 = true := by decide +kernel
theorem zko {n : Nat} {ds : List D} (h : z4z Tryz.prog n 24 ds) : ∃ l : List Wd, ds = [z0r l] /\ l.length <= maxLen /\ ∀ w ∈ l, w.text.size <= maxLen := by
 obtain ⟨m, parts, rfl, hl, hp, rfl⟩ := z97 Tryz.underlying24 h
 obtain ⟨l, rfl, hq⟩ := z5e (f := z4j) (q := fun w : Wd => w.text.size <= maxLen) (fun p hp => zn8 hp) parts hp
 refine ⟨l, ?_, by simpa using hl, hq⟩
 rw [zaz, zdw, List.map_map]; rfl
theorem zz7 {n : Nat} {ds : List D} (h : z4z Tryz.prog n 53 ds) : ∃ o : Up, ds = zbm o /\ UpIn o := by
 obtain ⟨m, rfl, h⟩ := z45 Tryz.underlying53 h
 obtain ⟨d1, r1, rfl, h1, d2, r2, rfl, h2, d3, r3, rfl, h3, d4, r4, rfl, h4, d5, r5, rfl, h5, d6, r6, rfl, h6, d7, r7, rfl, h7, rfl⟩ := h
 obtain ⟨k, rfl, hk⟩ : ∃ i : Int, d1 = [.int .u8 i] /\ 0 <= i /\ i <= 255 := by
  cases m with
  | zero => cases h1
  | succ m =>
   simp only [z4z, Tryz.underlying5] at h1
   obtain ⟨i, h1, h2⟩ := h1
   refine ⟨i, h1, ?_⟩
   simp only [Lit.wf, Bool.and_eq_true, decide_eq_true_eq] at h2
   exact h2
 obtain ⟨i, rfl⟩ := zkb h2
 obtain ⟨j, rfl⟩ := zkb h3
 obtain ⟨a, rfl, ha1, ha2⟩ := z44 Tryz.underlying3 h4
 obtain ⟨t, rfl, ht⟩ := ziu _ h5
 obtain ⟨s, rfl, hs⟩ := zcn Tryz.underlying9 h6
 obtain ⟨l, rfl, hl1, hl2⟩ := zko h7
 refine ⟨⟨k, i, j, a, t, s, l⟩, ?_, ⟨ht, hs, hl1, hl2, ⟨ha1, ha2⟩, hk⟩⟩
 rw [List.append_nil]; rfl
section
variable {H : Type} {enc : TypeId × Value -> H} {W : World} {base : Nat} {r : Reach} {b0 : Nat} {spare : Nat -> Bool} {held : Bool} {v : Value} {d : DataW H} {p : List MemPlace}
theorem rd_ups (hv : Value.okWide Tryz.prog W r b0 41 v) (h : DataW.Trod enc Tryz.prog W base spare held 41 v d p) : ∃ l : List Up, (l.length <= maxLen /\ ∀ q ∈ l, UpIn q) /\ rel (z83 W) (z5k l) v := by
 obtain ⟨a, n, c, rfl⟩ := okWide_slice Tryz.underlying41 hv
 obtain ⟨m, d', ht, hr⟩ := one_arg zue (by decide) isAggT41 rfl h
 obtain ⟨m, parts, rfl, hl, hp, he⟩ := z97 Tryz.underlying41 ht
 obtain ⟨l, rfl, hq⟩ := z5e (f := zbm) (q := fun q : Up => UpIn q) (fun p hp => zz7 hp) parts hp
 refine ⟨l, ⟨by simpa using hl, hq⟩, ?_⟩
 have : d' = z5k l := by
  simp only [List.cons.injEq, and_true] at he
  rw [he, isAggT53, sizeT53, List.map_map]; rfl
 rw [this] at hr; exact hr
end
end Go.Proofs.YtmnabhhdiinfaaaGreatDoor.Glue
namespace Go.Proofs.YtmnabhhdiinfaaaGreatDoor
open _root_.Go.Proofs.Tryz
section
open Abs Facts Tr
attribute [local irreducible] awp
set_option maxRecDepth 100000
theorem vn_sz {x : Vn} (hx : standsT x.u = true) (hl : x.l.length <= 1000000) : VnSz x := by
 obtain ⟨h1, h2, h3⟩ := z66 hx
 exact ⟨h1, by omega, by omega, hl⟩
section
variable {x : Vn} {o : Up}
theorem zz8 (hx : VnSz x) (ho : UpOK o) (hk : o.kind = 0) (n : Int) :
  PC prog 25 [z1l x, z3a o, .int .i64 n] (.tup [z1l (z5p (z25 x.u o.parent o.at_ o.x) x (z0p o.parent (z40 o.at_.toNat o.x) x.u) (o.parent :: z20 o.parent x.u) n), .int .i64 (z25 x.u o.parent o.at_ o.x)]) := by
 have hcu := z3h o
 have hb1 := ho.lb
 have hb2 := ho.wl
 have hb3 := ho.dp
 have hb4 := ho.cn
 have c1 := zna hx o.x ho.sz (by omega) (by omega) o.parent o.at_ ho.at_ n
 rw [z0m, z0f o.x] at c1
 rw [z1l] at c1
 generalize z5p (z25 x.u o.parent o.at_ o.x) x (z0p o.parent (z40 o.at_.toNat o.x) x.u) (o.parent :: z20 o.parent x.u) n = y at c1 ⊢
 generalize z25 x.u o.parent o.at_ o.x = e at c1 ⊢
 refine z1g 2 (by simp only [pureD.pureL, z0z, z52, pureD, Bool.and_self]) (by simp only [pureD, pureD.pureL, z0z, Bool.and_self]) (z14 [] func25 rfl (by decide +kernel) rfl ?_)
 show awp _ _ (Code.seq _ _) _ _
 rw [show Tryz.f25.results.toList = [.cell 6 49, .tmp 7] from rfl]
 repeat' (first | refine zqj ?_ | ((first | refine zqh fun K J => ?_ | refine zqs (c1) ?_); (simp (disch := omega) only [go_sem, Nat.reduceBEq, ↓reduceIte, reduceCtorEq, Nat.reduceAdd, Nat.reduceLeDiff, z1l, z0s, z3a, hcu, hk, z0r])) | ((refine zqm _ rfl (fun hc => ?_) (fun hc => ?_)) <;> (first | (cases hc; done) | ((try simp only [] at hc); (try omega)))) | refine zqa ?_ | refine zqn ?_ | refine zqx ?_ | refine z6q ?_ | refine zqu (by (simp (disch := omega) only [go_sem, Nat.reduceBEq, ↓reduceIte, Nat.reduceAdd, Nat.reduceLeDiff]); rfl) rfl ?_ | (refine J _ ?_; clear J K))
 exact z0a (by simp only [pureD, pureD.pureL, z0t, z1h, z0x (f := z7c) (fun _ => rfl), Bool.and_self]) (Le.refl _)
theorem zz9 (hx : VnSz x) (ho : UpOK o) (hk : o.kind = 1) (n : Int) :
  PC prog 25 [z1l x, z3a o, .int .i64 n] (.tup [z1l (z5p (z4l x.u o.id) x (z0i o.id x.u) (z20 o.id x.u) n), .int .i64 (z4l x.u o.id)]) := by
 have hcu := z3h o
 have hb1 := ho.lb
 have hb2 := ho.wl
 have hb3 := ho.dp
 have hb4 := ho.cn
 have c1 := zuc hx o.id n
 rw [z1l] at c1
 generalize z5p (z4l x.u o.id) x (z0i o.id x.u) (z20 o.id x.u) n = y at c1 ⊢
 generalize z4l x.u o.id = e at c1 ⊢
 refine z1g 2 (by simp only [pureD.pureL, z0z, z52, pureD, Bool.and_self]) (by simp only [pureD, pureD.pureL, z0z, Bool.and_self]) (z14 [] func25 rfl (by decide +kernel) rfl ?_)
 show awp _ _ (Code.seq _ _) _ _
 rw [show Tryz.f25.results.toList = [.cell 6 49, .tmp 7] from rfl]
 repeat' (first | refine zqj ?_ | ((first | refine zqh fun K J => ?_ | refine zqs (c1) ?_); (simp (disch := omega) only [go_sem, Nat.reduceBEq, ↓reduceIte, reduceCtorEq, Nat.reduceAdd, Nat.reduceLeDiff, Int.reduceEq, z1l, z0s, z3a, hcu, hk, z0r])) | ((refine zqm _ rfl (fun hc => ?_) (fun hc => ?_)) <;> (first | (cases hc; done) | ((try simp only [] at hc); (try omega)))) | refine zqa ?_ | refine zqn ?_ | refine zqx ?_ | refine z6q ?_ | refine zqu (by (simp (disch := omega) only [go_sem, Nat.reduceBEq, ↓reduceIte, Nat.reduceAdd, Nat.reduceLeDiff]); rfl) rfl ?_ | (refine J _ ?_; clear J K))
 exact z0a (by simp only [pureD, pureD.pureL, z0t, z1h, z0x (f := z7c) (fun _ => rfl), Bool.and_self]) (Le.refl _)
theorem zza (hx : VnSz x) (ho : UpOK o) (hk : o.kind = 2) (n : Int) :
  PC prog 25 [z1l x, z3a o, .int .i64 n] (.tup [z1l (z5p (z33 x.u o.id o.parent o.at_) x (z0p o.parent (z40 o.at_.toNat (z05 o.id x.u).1) (z0i o.id x.u)) (z20 o.id x.u ++ o.parent :: z20 o.parent x.u) n), .int .i64 (z33 x.u o.id o.parent o.at_)]) := by
 have hcu := z3h o
 have hb1 := ho.lb
 have hb2 := ho.wl
 have hb3 := ho.dp
 have hb4 := ho.cn
 have c1 := zud hx o.id o.parent o.at_ n
 rw [z1l] at c1
 generalize z5p (z33 x.u o.id o.parent o.at_) x (z0p o.parent (z40 o.at_.toNat (z05 o.id x.u).1) (z0i o.id x.u)) (z20 o.id x.u ++ o.parent :: z20 o.parent x.u) n = y at c1 ⊢
 generalize z33 x.u o.id o.parent o.at_ = e at c1 ⊢
 refine z1g 2 (by simp only [pureD.pureL, z0z, z52, pureD, Bool.and_self]) (by simp only [pureD, pureD.pureL, z0z, Bool.and_self]) (z14 [] func25 rfl (by decide +kernel) rfl ?_)
 show awp _ _ (Code.seq _ _) _ _
 rw [show Tryz.f25.results.toList = [.cell 6 49, .tmp 7] from rfl]
 repeat' (first | refine zqj ?_ | ((first | refine zqh fun K J => ?_ | refine zqs (c1) ?_); (simp (disch := omega) only [go_sem, Nat.reduceBEq, ↓reduceIte, reduceCtorEq, Nat.reduceAdd, Nat.reduceLeDiff, Int.reduceEq, z1l, z0s, z3a, hcu, hk, z0r])) | ((refine zqm _ rfl (fun hc => ?_) (fun hc => ?_)) <;> (first | (cases hc; done) | ((try simp only [] at hc); (try omega)))) | refine zqa ?_ | refine zqn ?_ | refine zqx ?_ | refine z6q ?_ | refine zqu (by (simp (disch := omega) only [go_sem, Nat.reduceBEq, ↓reduceIte, Nat.reduceAdd, Nat.reduceLeDiff]); rfl) rfl ?_ | (refine J _ ?_; clear J K))
 exact z0a (by simp only [pureD, pureD.pureL, z0t, z1h, z0x (f := z7c) (fun _ => rfl), Bool.and_self]) (Le.refl _)
theorem zzb (hx : VnSz x) (ho : UpOK o) (hk : o.kind = 3) (n : Int) :
  PC prog 25 [z1l x, z3a o, .int .i64 n] (.tup [z1l (z5p (z9f x.u o.id o.label) x (z0p o.id (fun q => q.setLabel o.label) x.u) (o.id :: z20 o.id x.u) n), .int .i64 (z9f x.u o.id o.label)]) := by
 have hcu := z3h o
 have hb1 := ho.lb
 have hb2 := ho.wl
 have hb3 := ho.dp
 have hb4 := ho.cn
 have c1 := zkn hx o.id o.label (by omega) n
 rw [z1l] at c1
 generalize z5p (z9f x.u o.id o.label) x (z0p o.id (fun q => q.setLabel o.label) x.u) (o.id :: z20 o.id x.u) n = y at c1 ⊢
 generalize z9f x.u o.id o.label = e at c1 ⊢
 refine z1g 2 (by simp only [pureD.pureL, z0z, z52, pureD, Bool.and_self]) (by simp only [pureD, pureD.pureL, z0z, Bool.and_self]) (z14 [] func25 rfl (by decide +kernel) rfl ?_)
 show awp _ _ (Code.seq _ _) _ _
 rw [show Tryz.f25.results.toList = [.cell 6 49, .tmp 7] from rfl]
 repeat' (first | refine zqj ?_ | ((first | refine zqh fun K J => ?_ | refine zqs (c1) ?_); (simp (disch := omega) only [go_sem, Nat.reduceBEq, ↓reduceIte, reduceCtorEq, Nat.reduceAdd, Nat.reduceLeDiff, Int.reduceEq, z1l, z0s, z3a, hcu, hk, z0r])) | ((refine zqm _ rfl (fun hc => ?_) (fun hc => ?_)) <;> (first | (cases hc; done) | ((try simp only [] at hc); (try omega)))) | refine zqa ?_ | refine zqn ?_ | refine zqx ?_ | refine z6q ?_ | refine zqu (by (simp (disch := omega) only [go_sem, Nat.reduceBEq, ↓reduceIte, Nat.reduceAdd, Nat.reduceLeDiff]); rfl) rfl ?_ | (refine J _ ?_; clear J K))
 exact z0a (by simp only [pureD, pureD.pureL, z0t, z1h, z0x (f := z7c) (fun _ => rfl), Bool.and_self]) (Le.refl _)
theorem zzc (hx : VnSz x) (ho : UpOK o) (hk : o.kind = 4) (n : Int) :
  PC prog 25 [z1l x, z3a o, .int .i64 n] (.tup [z1l (z5p (z1k x.u o.id o.w) x (z0p o.id (fun q => q.setWords o.w) x.u) (o.id :: z20 o.id x.u) n), .int .i64 (z1k x.u o.id o.w)]) := by
 have hcu := z3h o
 have hb1 := ho.lb
 have hb2 := ho.wl
 have hb3 := ho.dp
 have hb4 := ho.cn
 have c1 := znc hx o.id o.w (by omega) ho.wt n
 rw [z1l] at c1
 generalize z5p (z1k x.u o.id o.w) x (z0p o.id (fun q => q.setWords o.w) x.u) (o.id :: z20 o.id x.u) n = y at c1 ⊢
 generalize z1k x.u o.id o.w = e at c1 ⊢
 refine z1g 2 (by simp only [pureD.pureL, z0z, z52, pureD, Bool.and_self]) (by simp only [pureD, pureD.pureL, z0z, Bool.and_self]) (z14 [] func25 rfl (by decide +kernel) rfl ?_)
 show awp _ _ (Code.seq _ _) _ _
 rw [show Tryz.f25.results.toList = [.cell 6 49, .tmp 7] from rfl]
 repeat' (first | refine zqj ?_ | ((first | refine zqh fun K J => ?_ | refine zqs (c1) ?_); (simp (disch := omega) only [go_sem, Nat.reduceBEq, ↓reduceIte, reduceCtorEq, Nat.reduceAdd, Nat.reduceLeDiff, Int.reduceEq, z1l, z0s, z3a, hcu, hk, z0r])) | ((refine zqm _ rfl (fun hc => ?_) (fun hc => ?_)) <;> (first | (cases hc; done) | ((try simp only [] at hc); (try omega)))) | refine zqa ?_ | refine zqn ?_ | refine zqx ?_ | refine z6q ?_ | refine zqu (by (simp (disch := omega) only [go_sem, Nat.reduceBEq, ↓reduceIte, Nat.reduceAdd, Nat.reduceLeDiff]); rfl) rfl ?_ | (refine J _ ?_; clear J K))
 exact z0a (by simp only [pureD, pureD.pureL, z0t, z1h, z0x (f := z7c) (fun _ => rfl), Bool.and_self]) (Le.refl _)
theorem zzd (hx : VnSz x) (ho : UpOK o) (hk : o.kind = 5) (n : Int) :
  PC prog 25 [z1l x, z3a o, .int .i64 n] (.tup [z1l (z5p (z1k x.u o.id o.w) x (z0p o.id (fun q => q.setHead o.w) x.u) (o.id :: z20 o.id x.u) n), .int .i64 (z1k x.u o.id o.w)]) := by
 have hcu := z3h o
 have hb1 := ho.lb
 have hb2 := ho.wl
 have hb3 := ho.dp
 have hb4 := ho.cn
 have c1 := znb hx o.id o.w (by omega) ho.wt n
 rw [z1l] at c1
 generalize z5p (z1k x.u o.id o.w) x (z0p o.id (fun q => q.setHead o.w) x.u) (o.id :: z20 o.id x.u) n = y at c1 ⊢
 generalize z1k x.u o.id o.w = e at c1 ⊢
 refine z1g 2 (by simp only [pureD.pureL, z0z, z52, pureD, Bool.and_self]) (by simp only [pureD, pureD.pureL, z0z, Bool.and_self]) (z14 [] func25 rfl (by decide +kernel) rfl ?_)
 show awp _ _ (Code.seq _ _) _ _
 rw [show Tryz.f25.results.toList = [.cell 6 49, .tmp 7] from rfl]
 repeat' (first | refine zqj ?_ | ((first | refine zqh fun K J => ?_ | refine zqs (c1) ?_); (simp (disch := omega) only [go_sem, Nat.reduceBEq, ↓reduceIte, reduceCtorEq, Nat.reduceAdd, Nat.reduceLeDiff, Int.reduceEq, z1l, z0s, z3a, hcu, hk, z0r])) | ((refine zqm _ rfl (fun hc => ?_) (fun hc => ?_)) <;> (first | (cases hc; done) | ((try simp only [] at hc); (try omega)))) | refine zqa ?_ | refine zqn ?_ | refine zqx ?_ | refine z6q ?_ | refine zqu (by (simp (disch := omega) only [go_sem, Nat.reduceBEq, ↓reduceIte, Nat.reduceAdd, Nat.reduceLeDiff]); rfl) rfl ?_ | (refine J _ ?_; clear J K))
 exact z0a (by simp only [pureD, pureD.pureL, z0t, z1h, z0x (f := z7c) (fun _ => rfl), Bool.and_self]) (Le.refl _)
theorem zze (ho : UpOK o) (hk : 6 <= o.kind) (n : Int) : PC prog 25 [z1l x, z3a o, .int .i64 n] (.tup [z1l x, .int .i64 1]) := by
 have hcu := z3h o
 have h0 : ¬ o.kind = 0 := by omega
 have h1 : ¬ o.kind = 1 := by omega
 have h2 : ¬ o.kind = 2 := by omega
 have h3 : ¬ o.kind = 3 := by omega
 have h4 : ¬ o.kind = 4 := by omega
 have h5 : ¬ o.kind = 5 := by omega
 refine z1g 2 (by simp only [pureD.pureL, z0z, z52, pureD, Bool.and_self]) (by simp only [pureD, pureD.pureL, z0z, Bool.and_self]) (z14 [] func25 rfl (by decide +kernel) rfl ?_)
 show awp _ _ (Code.seq _ _) _ _
 rw [show Tryz.f25.results.toList = [.cell 6 49, .tmp 7] from rfl]
 repeat' (first | refine zqj ?_ | ((refine zqh fun K J => ?_); (simp (disch := omega) only [go_sem, Nat.reduceBEq, ↓reduceIte, reduceCtorEq, Nat.reduceAdd, Nat.reduceLeDiff, z1l, z0s, z3a, hcu, h0, h1, h2, h3, h4, h5])) | ((refine zqm _ rfl (fun hc => ?_) (fun hc => ?_)) <;> (first | (cases hc; done) | ((try simp only [] at hc); (try omega)))) | refine zqa ?_ | refine zqk ?_ | refine zqn ?_ | refine zqv ?_ | refine zqy ?_ | refine zqu (by (simp (disch := omega) only [go_sem, Nat.reduceBEq, ↓reduceIte, Nat.reduceAdd, Nat.reduceLeDiff]); rfl) rfl ?_ | (refine J _ ?_; clear J K))
 exact z0a (by simp only [pureD, pureD.pureL, z0d, z0t, z1h, Bool.and_self]) (Le.refl _)
theorem pc_want (hx : standsT x.u = true) (hl : x.l.length <= 1000000) (ho : UpOK o) (n : Int) : PC prog 25 [z1l x, z3a o, .int .i64 n] (.tup [z1l (z5p (opE x.u o) x (opT x.u o) (opM x.u o) n), .int .i64 (opE x.u o)]) := by
 have hv := vn_sz hx hl
 have hk := ho.k0
 unfold opE opT opM
 by_cases k0 : o.kind = 0
 ·simp only [k0, if_true]; exact zz8 hv ho k0 n
 by_cases k1 : o.kind = 1
 ·simp only [k1, if_true]
  simp only [show ¬ (1 : Int) = 0 from by decide, if_false]
  exact zz9 hv ho k1 n
 by_cases k2 : o.kind = 2
 ·simp only [k2, if_true]
  simp only [show ¬ (2 : Int) = 0 from by decide, show ¬ (2 : Int) = 1 from by decide, if_false]
  exact zza hv ho k2 n
 by_cases k3 : o.kind = 3
 ·simp only [if_neg k0, if_neg k1, if_neg k2, if_pos k3]
  exact zzb hv ho k3 n
 by_cases k4 : o.kind = 4
 ·simp only [if_neg k0, if_neg k1, if_neg k2, if_neg k3, if_pos k4, if_pos (Or.inl (b := o.kind = 5) k4)]
  exact zzc hv ho k4 n
 by_cases k5 : o.kind = 5
 ·simp only [if_neg k0, if_neg k1, if_neg k2, if_neg k3, if_neg k4, if_pos k5, if_pos (Or.inr (a := o.kind = 4) k5)]
  exact zzd hv ho k5 n
 ·simp only [if_neg k0, if_neg k1, if_neg k2, if_neg k3, if_neg k4, if_neg k5, if_neg (show ¬ (o.kind = 4 \/ o.kind = 5) from fun h => h.elim k4 k5)]
  exact zze ho (by omega) n
end
section
variable {H : HM} {n tb : Nat} {v : V} {o : Up}
theorem det_do (hs : standsT (treeV v) = true) (htb : tb < n) (hH : H tb = some (treeB (.ptr v.num 0))) (hu : Under n v) (hst : Stand H v) (ho : UpOK o) :
  Det 23 [.ptr tb 0, z3a o] H n (UpdOK (opE (treeV v) o) (opT (treeV v) o) (opM (treeV v) o) v H n) := by
 obtain ⟨hz, hcn, hd⟩ := z66 hs
 have hn := z17 hs
 have hcu := z3h o
 obtain ⟨H1, hH1⟩ : ∃ H1, H1 = z0k H n (some (.box 53 (zbm o))) := ⟨_, rfl⟩
 have hag : Agree n H H1 := fun j hj => by rw [hH1]; exact z01 _ (by omega)
 have hH' : H1 tb = some (treeB (.ptr v.num 0)) := by rw [hag _ htb]; exact hH
 have hu' : Under (n + 1) v := hu.le (by omega)
 have hst' : Stand H1 v := Stand.agree hag v hu hst
 have hb1 := ho.lb
 have hb2 := ho.wl
 have hb3 := ho.dp
 have hb4 := ho.cn
 have zsd : ∀ {e : Int} {u' : T} {m : List Idv} {r : D × HM × Nat}, UpdOK e u' m v H1 (n + 1) r -> UpdOK e u' m v H n r := fun {e u' m r} h => by
  refine ⟨by have := h.le; omega, fun j hj => by rw [h.agree j (by omega), hag j hj], h.bad, fun h0 => ?_⟩
  obtain ⟨v', t, p1, p2, p3, p4, p5, p6, p7, p8, p9⟩ := h.good h0
  refine ⟨v', t, p1, by omega, p3, p4, p5, p6, p7, fun a ha => ?_, by omega⟩
  rcases p8 a ha with ⟨q1, q2, q3⟩ | ⟨q1, q2⟩
  ·exact .inl ⟨z4s hu a q2, q2, q3⟩
  ·exact .inr ⟨by omega, q2⟩
 unfold opE opT opM
 have shape : ∀ {e : Int} {u' : T} {m : List Idv} {r : D × HM × Nat}, UpdOK e u' m v H1 (n + 1) r -> (∃ t, r.1 = .tup [.ptr t 0, .int .i64 e]) \/ r.1 = .tup [.nptr, .int .i64 e] := fun {e u' m r} h => by
  by_cases h0 : e = 0
  ·obtain ⟨v', t, p1, _⟩ := h.good h0
   exact .inl ⟨t, by rw [p1, h0]⟩
  ·exact .inr (h.bad h0)
 by_cases k0 : o.kind = 0
 ·simp only [if_pos k0]
  obtain ⟨r, hac, hok⟩ := ztg hz (by omega) (by omega) hn (by omega) hH' hu' hst' o.x ho.sz (by omega) (by omega) o.parent o.at_
  refine ⟨r, ?_, zsd hok⟩
  rw [z0m, z0f] at hac
  refine (z14 [] func23 rfl (by decide +kernel) rfl ?_)
  show awp _ _ (Code.seq _ _) _ _
  subst hH1
  rw [hcu, k0] at hac
  repeat' (first | refine zqj ?_ | ((refine zqh fun K J => ?_); (simp (disch := omega) only [go_sem, Nat.reduceBEq, ↓reduceIte, reduceCtorEq, Nat.reduceAdd, Nat.reduceLeDiff, z3a, hcu, k0, z0r])) | ((refine zqm _ rfl (fun hc => ?_) (fun hc => ?_)) <;> (first | (cases hc; done) | ((try simp only [] at hc); (try omega)))) | refine zqa ?_ | (refine J _ ?_; clear J K))
  refine z1m (hac.mono fun r' H' n' ⟨e1, e2, e3⟩ => ?_)
  rcases shape hok with ⟨t, hd1⟩ | hd1
  all_goals
   rw [hd1] at e1
   subst e1; subst e2; subst e3
   (try (simp (disch := omega) only [go_sem, Nat.reduceBEq])); repeat' (first | refine zqn ?_ | refine zqx ?_ | refine z6q ?_ | refine zqu (by simp only [go_sem]; rfl) rfl ?_ | (refine J _ ?_; clear J K))
   rw [hd1]
   (simp (disch := omega) only [go_sem, Nat.reduceBEq])
 by_cases k1 : o.kind = 1
 ·simp only [if_neg k0, if_pos k1]
  obtain ⟨r, hac, hok⟩ := zth hz (by omega) (by omega) hn (by omega) hH' hu' hst' o.id
  refine ⟨r, ?_, zsd hok⟩
  refine (z14 [] func23 rfl (by decide +kernel) rfl ?_)
  show awp _ _ (Code.seq _ _) _ _
  subst hH1
  rw [hcu, k1] at hac
  repeat' (first | refine zqj ?_ | ((refine zqh fun K J => ?_); (simp (disch := omega) only [go_sem, Nat.reduceBEq, ↓reduceIte, reduceCtorEq, Nat.reduceAdd, Nat.reduceLeDiff, Int.reduceEq, z3a, hcu, k1, z0r])) | ((refine zqm _ rfl (fun hc => ?_) (fun hc => ?_)) <;> (first | (cases hc; done) | ((try simp only [] at hc); (try omega)))) | refine zqa ?_ | (refine J _ ?_; clear J K))
  refine z1m (hac.mono fun r' H' n' ⟨e1, e2, e3⟩ => ?_)
  rcases shape hok with ⟨t, hd1⟩ | hd1
  all_goals
   rw [hd1] at e1
   subst e1; subst e2; subst e3
   (try (simp (disch := omega) only [go_sem, Nat.reduceBEq])); repeat' (first | refine zqn ?_ | refine zqx ?_ | refine z6q ?_ | refine zqu (by simp only [go_sem]; rfl) rfl ?_ | (refine J _ ?_; clear J K))
   rw [hd1]
   (simp (disch := omega) only [go_sem, Nat.reduceBEq])
 by_cases k2 : o.kind = 2
 ·simp only [if_neg k0, if_neg k1, if_pos k2]
  obtain ⟨r, hac, hok⟩ := det_Move hz (by omega) (by omega) hn (by omega) hH' hu' hst' o.id o.parent o.at_
  refine ⟨r, ?_, zsd hok⟩
  refine (z14 [] func23 rfl (by decide +kernel) rfl ?_)
  show awp _ _ (Code.seq _ _) _ _
  subst hH1
  rw [hcu, k2] at hac
  repeat' (first | refine zqj ?_ | ((refine zqh fun K J => ?_); (simp (disch := omega) only [go_sem, Nat.reduceBEq, ↓reduceIte, reduceCtorEq, Nat.reduceAdd, Nat.reduceLeDiff, Int.reduceEq, z3a, hcu, k2, z0r])) | ((refine zqm _ rfl (fun hc => ?_) (fun hc => ?_)) <;> (first | (cases hc; done) | ((try simp only [] at hc); (try omega)))) | refine zqa ?_ | (refine J _ ?_; clear J K))
  refine z1m (hac.mono fun r' H' n' ⟨e1, e2, e3⟩ => ?_)
  rcases shape hok with ⟨t, hd1⟩ | hd1
  all_goals
   rw [hd1] at e1
   subst e1; subst e2; subst e3
   (try (simp (disch := omega) only [go_sem, Nat.reduceBEq])); repeat' (first | refine zqn ?_ | refine zqx ?_ | refine z6q ?_ | refine zqu (by simp only [go_sem]; rfl) rfl ?_ | (refine J _ ?_; clear J K))
   rw [hd1]
   (simp (disch := omega) only [go_sem, Nat.reduceBEq])
 by_cases k3 : o.kind = 3
 ·simp only [if_neg k0, if_neg k1, if_neg k2, if_pos k3]
  obtain ⟨r, hac, hok⟩ := zol hz (by omega) (by omega) hn (by omega) hH' hu' hst' o.id o.label (by omega)
  refine ⟨r, ?_, zsd hok⟩
  refine (z14 [] func23 rfl (by decide +kernel) rfl ?_)
  show awp _ _ (Code.seq _ _) _ _
  subst hH1
  rw [hcu, k3] at hac
  repeat' (first | refine zqj ?_ | ((refine zqh fun K J => ?_); (simp (disch := omega) only [go_sem, Nat.reduceBEq, ↓reduceIte, reduceCtorEq, Nat.reduceAdd, Nat.reduceLeDiff, Int.reduceEq, z3a, hcu, k3, z0r])) | ((refine zqm _ rfl (fun hc => ?_) (fun hc => ?_)) <;> (first | (cases hc; done) | ((try simp only [] at hc); (try omega)))) | refine zqa ?_ | (refine J _ ?_; clear J K))
  refine z1m (hac.mono fun r' H' n' ⟨e1, e2, e3⟩ => ?_)
  rcases shape hok with ⟨t, hd1⟩ | hd1
  all_goals
   rw [hd1] at e1
   subst e1; subst e2; subst e3
   (try (simp (disch := omega) only [go_sem, Nat.reduceBEq])); repeat' (first | refine zqn ?_ | refine zqx ?_ | refine z6q ?_ | refine zqu (by simp only [go_sem]; rfl) rfl ?_ | (refine J _ ?_; clear J K))
   rw [hd1]
   (simp (disch := omega) only [go_sem, Nat.reduceBEq])
 by_cases k4 : o.kind = 4
 ·simp only [if_neg k0, if_neg k1, if_neg k2, if_neg k3, if_pos k4, if_pos (Or.inl (b := o.kind = 5) k4)]
  obtain ⟨r, hac, hok⟩ := za7 hz (by omega) (by omega) hn (by omega) hH' hu' hst' o.id o.w (by omega) ho.wt
  refine ⟨r, ?_, zsd hok⟩
  refine (z14 [] func23 rfl (by decide +kernel) rfl ?_)
  show awp _ _ (Code.seq _ _) _ _
  subst hH1
  rw [hcu, k4] at hac
  repeat' (first | refine zqj ?_ | ((refine zqh fun K J => ?_); (simp (disch := omega) only [go_sem, Nat.reduceBEq, ↓reduceIte, reduceCtorEq, Nat.reduceAdd, Nat.reduceLeDiff, Int.reduceEq, z3a, hcu, k4, z0r])) | ((refine zqm _ rfl (fun hc => ?_) (fun hc => ?_)) <;> (first | (cases hc; done) | ((try simp only [] at hc); (try omega)))) | refine zqa ?_ | (refine J _ ?_; clear J K))
  refine z1m (hac.mono fun r' H' n' ⟨e1, e2, e3⟩ => ?_)
  rcases shape hok with ⟨t, hd1⟩ | hd1
  all_goals
   rw [hd1] at e1
   subst e1; subst e2; subst e3
   (try (simp (disch := omega) only [go_sem, Nat.reduceBEq])); repeat' (first | refine zqn ?_ | refine zqx ?_ | refine z6q ?_ | refine zqu (by simp only [go_sem]; rfl) rfl ?_ | (refine J _ ?_; clear J K))
   rw [hd1]
   (simp (disch := omega) only [go_sem, Nat.reduceBEq])
 by_cases k5 : o.kind = 5
 ·simp only [if_neg k0, if_neg k1, if_neg k2, if_neg k3, if_neg k4, if_pos k5, if_pos (Or.inr (a := o.kind = 4) k5)]
  obtain ⟨r, hac, hok⟩ := zhn hz (by omega) (by omega) hn (by omega) hH' hu' hst' o.id o.w (by omega) ho.wt
  refine ⟨r, ?_, zsd hok⟩
  refine (z14 [] func23 rfl (by decide +kernel) rfl ?_)
  show awp _ _ (Code.seq _ _) _ _
  subst hH1
  rw [hcu, k5] at hac
  repeat' (first | refine zqj ?_ | ((refine zqh fun K J => ?_); (simp (disch := omega) only [go_sem, Nat.reduceBEq, ↓reduceIte, reduceCtorEq, Nat.reduceAdd, Nat.reduceLeDiff, Int.reduceEq, z3a, hcu, k5, z0r])) | ((refine zqm _ rfl (fun hc => ?_) (fun hc => ?_)) <;> (first | (cases hc; done) | ((try simp only [] at hc); (try omega)))) | refine zqa ?_ | (refine J _ ?_; clear J K))
  refine z1m (hac.mono fun r' H' n' ⟨e1, e2, e3⟩ => ?_)
  rcases shape hok with ⟨t, hd1⟩ | hd1
  all_goals
   rw [hd1] at e1
   subst e1; subst e2; subst e3
   (try (simp (disch := omega) only [go_sem, Nat.reduceBEq])); repeat' (first | refine zqn ?_ | refine zqx ?_ | refine z6q ?_ | refine zqu (by simp only [go_sem]; rfl) rfl ?_ | (refine J _ ?_; clear J K))
   rw [hd1]
   (simp (disch := omega) only [go_sem, Nat.reduceBEq])
 ·simp only [if_neg k0, if_neg k1, if_neg k2, if_neg k3, if_neg k4, if_neg k5, if_neg (show ¬ (o.kind = 4 \/ o.kind = 5) from fun h => h.elim k4 k5)]
  refine ⟨(.tup [.nptr, .int .i64 1], H1, n + 1), ?_, ⟨by simp, hag, fun _ => rfl, fun h => by cases h⟩⟩
  refine (z14 [] func23 rfl (by decide +kernel) rfl ?_)
  show awp _ _ (Code.seq _ _) _ _
  rw [hH1, hcu]
  repeat' (first | refine zqj ?_ | ((refine zqh fun K J => ?_); (simp (disch := omega) only [go_sem, Nat.reduceBEq, ↓reduceIte, reduceCtorEq, Nat.reduceAdd, z3a, hcu, k0, k1, k2, k3, k4, k5, z0r])) | ((refine zqm _ rfl (fun hc => ?_) (fun hc => ?_)) <;> (first | (cases hc; done) | ((try simp only [] at hc); (try omega)))) | refine zqa ?_ | refine zqk ?_ | refine zqn ?_ | refine zqv ?_ | refine zqy ?_ | refine zqu (by simp only [go_sem]; rfl) rfl ?_ | (refine J _ ?_; clear J K))
  (simp (disch := omega) only [go_sem, Nat.reduceBEq])
  rfl
end
end
section
open Abs Facts Tr
structure Inv (b : Nat -> Int) (m : Int) (H : HM) (nx : Nat) (a : List (Nat × V)) (x : List Vn) : Prop where
 len : x.length = a.length
 tr : ∀ p ∈ a, p.1 < nx /\ H p.1 = some (treeB (.ptr p.2.num 0)) /\ Stand H p.2 /\ Under nx p.2 /\ standsT (treeV p.2) = true
 fit : ∀ i (h : i < a.length), Fits b a[i].2 (x[i]'(by omega))
 ap : Apart b (a.map (·.2))
 lt : ∀ p ∈ a, ∀ n ∈ nodesV p.2, b n.num < m
theorem zy4 {b : Nat -> Int} {S S' : List V} (h : Apart b S) (hs : ∀ v ∈ S', v ∈ S) : Apart b S' :=
 ⟨fun v hv w hw => h.key v (hs v hv) w (hs w hw), fun v hv w hw => h.same v (hs v hv) w (hs w hw)⟩
theorem zy5 {u : T} {H : HM} {nx : Nat} {v : V} {t : Nat} (h1 : t < nx) (h2 : H t = some (treeB (.ptr v.num 0))) (h3 : Stand H v) (h4 : Under nx v) (h5 : treeV v = u) (hs : standsT u = true) : Inv (fun _ => 0) 1 H nx [(t, v)] [ofV u 0] := by
 have hn := z17 hs
 refine ⟨rfl, fun p hp => ?_, fun i hi => ?_, ⟨fun p hp q hq x hx y hy hid _ => ?_, fun p hp q hq x hx y hy he => ?_⟩, fun p hp n _ => by decide⟩
 ·rw [List.mem_singleton] at hp
  subst hp
  exact ⟨h1, h2, h3, h4, by rw [h5]; exact hs⟩
 ·have hi0 : i = 0 := by simp at hi; omega
  subst hi0
  refine ⟨h5, ?_, ?_, fun w _ => Int.le_refl _⟩
  ·show (ofV u 0).l = _
   unfold ofV
   rw [<- h5, z49, List.map_map]
   rfl
  ·show ((nodesV v).map fun w => w.own.id).Nodup
   rw [<- z49, h5]; exact hn
 ·simp only [List.map_cons, List.map_nil, List.mem_singleton] at hp hq
  rw [hp] at hx; rw [hq] at hy
  have hd : ((nodesV v).map fun w => w.own.id).Nodup := by rw [<- z49, h5]; exact hn
  rw [z7p hd x hx y hy hid]
 ·simp only [List.map_cons, List.map_nil, List.mem_singleton] at hp hq
  rw [hp] at hx; rw [hq] at hy
  exact ziv h3 h3 hx hy he
theorem zfe {b : Nat -> Int} {m : Int} {H H' : HM} {nx nx' : Nat} {a : List (Nat × V)} {x : List Vn} (h : Inv b m H nx a x) (ha : Agree nx H H') (hn : nx <= nx') : Inv b m H' nx' a x :=
 ⟨h.len, fun p hp => by
  obtain ⟨h1, h2, h3, h4, h5⟩ := h.tr p hp
  exact ⟨by omega, by rw [ha _ h1]; exact h2, Stand.agree ha _ h4 h3, h4.le hn, h5⟩, h.fit, h.ap, h.lt⟩
theorem inv_mono {b : Nat -> Int} {m m' : Int} {H : HM} {nx : Nat} {a : List (Nat × V)} {x : List Vn} (h : Inv b m H nx a x) (hm : m <= m') : Inv b m' H nx a x :=
 ⟨h.len, h.tr, h.fit, h.ap, fun p hp n hn => by have := h.lt p hp n hn; omega⟩
theorem zmn {H : HM} : ∀ v : V, Stand H v -> ∀ j ∈ objsV v, (∃ cs, H j = some (.box 117 cs)) \/ ∃ n cs, H j = some (.row 75 n cs) := by
 refine zdg fun v ih hs j hj => ?_
 obtain ⟨s1, s2, s3⟩ := (z29 H v).1 hs
 rw [z7v, List.mem_cons, List.mem_append] at hj
 rcases hj with rfl | hj | hj
 ·exact .inl ⟨_, s1⟩
 ·unfold zj9 at s2
  cases hr : v.row with
  | none => rw [hr] at hj; cases hj
  | some r =>
   rw [hr] at hj s2
   simp only [Option.toList_some, List.mem_singleton] at hj
   subst hj
   exact .inr ⟨_, _, s2⟩
 ·obtain ⟨k, hk, hj⟩ := List.mem_flatMap.1 hj
  exact ih k hk (s3 k hk) j hj
theorem zy6 {b : Nat -> Int} {m : Int} {H : HM} {nx : Nat} {a : List (Nat × V)} {x : List Vn} (h : Inv b m H nx a x) {r e n : Nat} {cs : List D} (hr : H r = some (.row e n cs)) (he : e ≠ 75) (o : Option HObj) : Inv b m (z0k H r o) nx a x :=
 ⟨h.len, fun p hp => by
  obtain ⟨h1, h2, h3, h4, h5⟩ := h.tr p hp
  refine ⟨h1, ?_, Stand.on _ (fun j hj => z01 _ fun ej => ?_) h3, h4, h5⟩
  ·rw [z01 _ fun ej => ?_]
   ·exact h2
   ·rw [ej, hr] at h2
    cases h2
  ·subst ej
   rcases zmn _ h3 j hj with ⟨cs2, h⟩ | ⟨n2, cs2, h⟩
   ·rw [hr] at h; cases h
   ·rw [hr] at h
    simp only [Option.some.injEq, HObj.row.injEq] at h
    exact he h.1, h.fit, h.ap, h.lt⟩
theorem zk5 {b : Nat -> Int} {m : Int} {H : HM} {nx : Nat} {a : List (Nat × V)} {x : List Vn} (h : Inv b m H nx a x) (hm : 0 <= m) {i : Nat} (hi : i < a.length) {u' : T} {made : List Idv} {o : D × HM × Nat} {v' : V} {t : Nat} (hu' : standsT u' = true)
  (hle : nx <= o.2.2) (hag : Agree nx H o.2.1) (ht : t < o.2.2) (hH : o.2.1 t = some (treeB (.ptr v'.num 0))) (hst : Stand o.2.1 v') (hun : Under o.2.2 v') (htr : treeV v' = u') (hupd : Upd nx made a[i].2 v') :
  Inv (byU b nx m) (m + 1) o.2.1 o.2.2 (a ++ [(t, v')]) (x ++ [z80 (x[i]'(by have := h.len; omega)) u' made m]) := by
 have hk := zfe h hag hle
 have hlen := h.len
 have hnum : ∀ p ∈ a, ∀ w ∈ nodesV p.2, w.num < nx := fun p hp w hw => z4s (h.tr p hp).2.2.2.1 w hw
 have hd : ((nodesV v').map fun w => w.own.id).Nodup := by rw [<- z49, htr]; exact z17 hu'
 refine ⟨by simp [hlen], fun p hp => ?_, fun k hk2 => ?_, ?_, fun p hp w hw => ?_⟩
 ·rcases List.mem_append.1 hp with hp | hp
  ·exact hk.tr p hp
  ·rw [List.mem_singleton] at hp; subst hp
   exact ⟨ht, hH, hst, hun, by rw [htr]; exact hu'⟩
 ·rw [List.length_append, List.length_singleton] at hk2
  by_cases hkl : k < a.length
  ·have e1 : (a ++ [(t, v')])[k] = a[k] := List.getElem_append_left hkl
   have e2 : (x ++ [z80 (x[i]'(by omega)) u' made m])[k]'(by simp; omega) = x[k]'(by omega) := List.getElem_append_left (by omega)
   rw [e2]
   simp only [e1]
   exact zyg (fun w hw => hnum _ (List.getElem_mem hkl) w hw) (h.fit k hkl)
  ·have hkl2 : k = a.length := by omega
   subst hkl2
   have e1 : (a ++ [(t, v')])[a.length] = (t, v') := by simp
   have e2 : (x ++ [z80 (x[i]'(by omega)) u' made m])[a.length]'(by simp; omega) = z80 (x[i]'(by omega)) u' made m := by
    rw [List.getElem_append_right (by omega)]; simp [hlen]
   rw [e2]
   simp only [e1]
   rw [<- htr]
   exact fits_upd hm hupd (h.fit i hi) hd
 ·refine zy4 (zyh (made := made) (v := a[i].2) (v' := v') h.ap (List.mem_map.2 ⟨_, List.getElem_mem hi, rfl⟩) (fun w hw n hn => ?_) hupd hd (fun y hy z hz e => ziv hst hst hy hz e)) fun w hw => ?_
  ·obtain ⟨p, hp, rfl⟩ := List.mem_map.1 hw
   exact ⟨hnum p hp n hn, h.lt p hp n hn⟩
  ·rw [List.map_append, List.mem_append] at hw
   rcases hw with hw | hw
   ·exact List.mem_cons_of_mem _ hw
   ·simp only [List.map_cons, List.map_nil, List.mem_singleton] at hw
    rw [hw]; exact List.mem_cons_self
 ·unfold byU
  rcases List.mem_append.1 hp with hp | hp
  ·rw [if_pos (hnum p hp w hw)]
   have := h.lt p hp w hw; omega
  ·rw [List.mem_singleton] at hp; subst hp
   split
   ·rename_i hlt
    rcases hupd w hw with ⟨_, g2, _⟩ | ⟨g1, _⟩
    ·have := h.lt _ (List.getElem_mem hi) w g2; omega
    ·omega
   ·omega
theorem zy7 {b : Nat -> Int} {m : Int} {H : HM} {nx : Nat} {a : List (Nat × V)} {x : List Vn} (h : Inv b m H nx a x) {i : Nat} (hi : i < a.length) : (x[i]'(by have := h.len; omega)).l.length <= 1024 /\ standsT (x[i]'(by have := h.len; omega)).u = true := by
 have hf := h.fit i hi
 have hs := (h.tr _ (List.getElem_mem hi)).2.2.2.2
 refine ⟨?_, by rw [<- hf.u]; exact hs⟩
 rw [hf.l, List.length_map, <- zf3]
 exact (z66 hs).2.1
theorem zcv {b : Nat -> Int} {m : Int} {H : HM} {nx : Nat} {a : List (Nat × V)} {x : List Vn} (h : Inv b m H nx a x) {i k : Nat} (hi : i < a.length) (hk : k < a.length) : zz3 a[i].2 a[k].2 = zh2 (x[i]'(by have := h.len; omega)) (x[k]'(by have := h.len; omega)) :=
 zyf h.ap (List.mem_map.2 ⟨_, List.getElem_mem hi, rfl⟩) (List.mem_map.2 ⟨_, List.getElem_mem hk, rfl⟩) (h.fit i hi) (h.fit k hk)
end
section
open Abs Facts Tr
attribute [local irreducible] awp
set_option maxRecDepth 100000
namespace Tr
def zco : T := .mk Idv.zero 0 ByteArray.empty [] [] [.mk ⟨1, 0, 1⟩ 2 ⟨#[49]⟩ [] [] [.mk ⟨1, 0, 2⟩ 3 ⟨#[49]⟩ [] [] []]]
def zmc : List Wd := [⟨⟨#[97]⟩, Idv.zero⟩]
def zxd : T := .mk Idv.zero 0 ByteArray.empty [] [] [.mk ⟨1, 0, 1⟩ 2 ⟨#[49]⟩ [] [] [.mk ⟨1, 0, 2⟩ 3 ⟨#[49]⟩ [] zmc []]]
def zxe : T := .mk Idv.zero 0 ByteArray.empty [] [] [.mk ⟨1, 0, 1⟩ 2 ⟨#[49]⟩ [] zmc [.mk ⟨1, 0, 2⟩ 3 ⟨#[49]⟩ [] [] []]]
end Tr
theorem zxf : PC prog 32 [] (z0m zco) := by
 refine z1g 3 rfl (z02 _) (z14 [] func32 rfl (by decide +kernel) rfl ?_)
 show awp _ _ (Code.seq _ _) _ _
 rw [show Tryz.f32.results.toList = [.cell 0 27] from rfl]
 repeat' (first | ((refine zqh fun K J => ?_); (simp (disch := omega) only [go_sem, Nat.reduceBEq, ↓reduceIte, reduceCtorEq, Nat.reduceAdd, Nat.reduceMul, Nat.reduceLeDiff])) | refine zqn ?_ | refine zqu (by (simp (disch := omega) only [go_sem, Nat.reduceBEq, ↓reduceIte, Nat.reduceAdd, Nat.reduceLeDiff]); rfl) rfl ?_ | (refine J _ ?_; clear J K))
 refine z0a ?_ ?_
 ·rfl
 rw [z0m, z0f]
 refine Le.agg ⟨Le.refl _, Le.refl _, Le.refl _, Le.refl _, Le.refl _, Le.nil 4, Le.nil 4, Le.rslL ⟨?_, trivial⟩, trivial⟩
 rw [z0m, z0f]
 refine Le.agg ⟨Le.refl _, Le.refl _, Le.refl _, Le.refl _, Le.refl _, Le.nil 4, Le.nil 4, Le.rslL ⟨?_, trivial⟩, trivial⟩
 rw [z0m, z0f]
 exact Le.agg ⟨Le.refl _, Le.refl _, Le.refl _, Le.refl _, Le.refl _, Le.nil 4, Le.nil 4, Le.nil 8, trivial⟩
theorem AC_le {P : Program} {f : FuncId} {ds es : List D} {H : HM} {nx : Nat} {K : D -> HM -> Nat -> Prop} (h : AC P f es H nx K) (hl : LeL ds es) : AC P f ds H nx K :=
 ⟨h.1, fun s w vs h1 h2 h3 h4 => h.2 s w vs h1 h2 h3 (z8g hl h4)⟩
theorem Det.le {f : FuncId} {ds es : List D} {H : HM} {nx : Nat} {F : D × HM × Nat -> Prop} (h : Det f es H nx F) (hl : LeL ds es) : Det f ds H nx F := by
 obtain ⟨o, h1, h2⟩ := h
 exact ⟨o, AC_le h1 hl, h2⟩
theorem ex15 : z1k zco ⟨1, 0, 2⟩ zmc = 0 /\ z0p ⟨1, 0, 2⟩ (fun q => q.setWords zmc) zco = zxd /\ z1k zco ⟨1, 0, 1⟩ zmc = 0 /\ z0p ⟨1, 0, 1⟩ (fun q => q.setWords zmc) zco = zxe /\ standsT zco = true /\ standsT zxd = true /\ standsT zxe = true := by decide +kernel
theorem zta : PC prog 9 [] (.bool true) := by
 obtain ⟨x1, x2, x3, x4, s1, s2, s3⟩ := ex15
 have hz := (z66 s1).1
 have c0 := zxf
 refine z1g 1 rfl rfl (z14 [] func9 rfl (by decide +kernel) rfl ?_)
 show awp _ _ (Code.seq _ _) _ _
 repeat' (first | ((first | refine zqh fun K J => ?_ | refine zqs (c0) ?_); (simp (disch := omega) only [go_sem, Nat.reduceBEq])) | (refine J _ ?_; clear J K))
 refine zcd (zxm zco hz (by decide +kernel) (by decide +kernel)) fun o hF => ?_
 obtain ⟨r, H1, n1⟩ := o
 obtain ⟨v, t, hr, -, ht, hH, hst, hun, htr, -, -⟩ := hF.good s1
 simp only at hr ht hH hst hun
 subst hr
 clear hF
 have i0 := zy5 ht hH hst hun htr s1
 have d1 : Det 33 [.ptr t 0, .agg [.int .i64 1, .int .i64 0, .int .i64 2], .rsl true 4 [.agg [.str ⟨#[97]⟩, .int .i64 0, .int .i64 0, .int .i64 0]]] H1 n1 _ := (za7 (v := v) (by rw [htr]; exact hz) (by rw [htr]; decide +kernel) (by rw [htr]; decide +kernel) (z17 (by rw [htr]; exact s1)) ht hH hun hst ⟨1, 0, 2⟩ zmc (by decide) (by decide)).le ⟨Le.refl _, Le.refl _, Le.rsl, trivial⟩
 rw [htr, x1, x2] at d1
 (try (simp (disch := omega) only [go_sem, Nat.reduceBEq])); repeat' (first | refine zqj ?_ | ((refine zqh fun K J => ?_); (simp (disch := omega) only [go_sem, Nat.reduceBEq, ↓reduceIte, reduceCtorEq, Nat.reduceAdd, Nat.reduceMul, Nat.reduceLeDiff])) | ((refine zqd _ rfl (fun hc => ?_) (fun hc => ?_)) <;> (first | (cases hc; done) | ((try simp only [] at hc); (try omega)))) | refine zqb ?_ | (refine J _ ?_; clear J K))
 refine zcd (by exact d1) fun o hF => ?_
 obtain ⟨r, H2, n2⟩ := o
 obtain ⟨v1, t1, hr, -, ht1, hH1, hst1, hun1, htr1, hup1, -⟩ := hF.good rfl
 have hle1 := hF.le
 have hag1 := hF.agree
 simp only at hr ht1 hH1 hst1 hun1 hle1 hag1
 subst hr
 clear hF d1
 have i1 := zk5 (o := (.nptr, H2, n2)) i0 (by decide) (i := 0) (by simp) s2 hle1 hag1 ht1 hH1 hst1 hun1 htr1 hup1
 (try (simp (disch := omega) only [go_sem, Nat.reduceBEq])); repeat' (first | ((refine zqh fun K J => ?_); (simp (disch := omega) only [go_sem, Nat.reduceBEq, ↓reduceIte, reduceCtorEq, Nat.reduceAdd, Nat.reduceMul, Nat.reduceLeDiff])) | (refine J _ ?_; clear J K))
 have ht2 : t < n2 := by omega
 have hH2 := (hag1 t ht).trans hH
 have hst2 := Stand.agree hag1 v hun hst
 have hun2 := hun.le hle1
 have d2 : Det 33 [.ptr t 0, .agg [.int .i64 1, .int .i64 0, .int .i64 1], .rsl true 4 [.agg [.str ⟨#[97]⟩, .int .i64 0, .int .i64 0, .int .i64 0]]] H2 n2 _ := (za7 (v := v) (by rw [htr]; exact hz) (by rw [htr]; decide +kernel) (by rw [htr]; decide +kernel) (z17 (by rw [htr]; exact s1)) ht2 hH2 hun2 hst2 ⟨1, 0, 1⟩ zmc (by decide) (by decide)).le ⟨Le.refl _, Le.refl _, Le.rsl, trivial⟩
 rw [htr, x3, x4] at d2
 refine zcd (by exact d2) fun o hF => ?_
 obtain ⟨r, H3, n3⟩ := o
 obtain ⟨v2, t2, hr, -, ht3, hH3, hst3, hun3, htr3, hup3, -⟩ := hF.good rfl
 have hle3 := hF.le
 have hag3 := hF.agree
 simp only at hr ht3 hH3 hst3 hun3 hle3 hag3
 subst hr
 clear hF d2
 have i2 := zk5 (o := (.nptr, H3, n3)) i1 (by decide) (i := 0) (by simp) s3 hle3 hag3 ht3 hH3 hst3 hun3 htr3 hup3
 obtain ⟨p1, p2, p3, p4, -⟩ := i2.tr (t, v) (by simp)
 obtain ⟨q1, q2, q3, q4, -⟩ := i2.tr (t1, v1) (by simp)
 have e1 : zz3 v1 v = 3 := (zcv i2 (i := 1) (k := 0) (by simp) (by simp)).trans (show zh2 (z80 (ofV zco 0) zxd _ 1) (ofV zco 0) = _ by decide +kernel)
 have e2 : zz3 v2 v = 2 := (zcv i2 (i := 2) (k := 0) (by simp) (by simp)).trans (show zh2 (z80 (ofV zco 0) zxe _ (1 + 1)) (ofV zco 0) = _ by decide +kernel)
 have e3 : zz3 v v = 0 := (zcv i2 (i := 0) (k := 0) (by simp) (by simp)).trans (show zh2 (ofV zco 0) (ofV zco 0) = _ by decide +kernel)
 have k1 := z8u (v := v1) (w := v) (by rw [htr1]; exact (z66 s2).1) (by rw [htr1]; decide +kernel) q1 q2 q4 q3 (by rw [htr]; exact hz) p1 p2 p4 p3
 have k2 := z8u (v := v2) (w := v) (by rw [htr3]; exact (z66 s3).1) (by rw [htr3]; decide +kernel) ht3 hH3 hun3 hst3 (by rw [htr]; exact hz) p1 p2 p4 p3
 have k3 := z8u (v := v) (w := v) (by rw [htr]; exact hz) (by rw [htr]; decide +kernel) p1 p2 p4 p3 (by rw [htr]; exact hz) p1 p2 p4 p3
 have k4 := rc_Len (v := v) (by rw [htr]; exact hz) (by rw [htr]; decide +kernel) p1 p2 p4 p3
 have k5 := zgg (v := v) (by rw [htr]; exact hz) p1 p2 p4 p3
 rw [e1] at k1
 rw [e2] at k2
 rw [e3] at k3
 rw [htr, show cntT zco = 3 from by decide +kernel] at k4
 rw [htr] at k5
 (try (simp (disch := omega) only [go_sem, Nat.reduceBEq])); repeat' (first | ((refine zqh fun K J => ?_); (simp (disch := omega) only [go_sem, Nat.reduceBEq, ↓reduceIte])) | (refine J _ ?_; clear J K))
 repeat' (first | ((first | refine z1d (k1) ?_ | refine z1d (k2) ?_ | refine z1d (k3) ?_ | refine z1d (k4) ?_ | refine z1d (k5) ?_); (simp (disch := omega) only [go_sem, Nat.reduceBEq, ↓reduceIte])) | refine zqn ?_ | refine zqu (by (simp (disch := omega) only [go_sem, Nat.reduceBEq]); rfl) rfl ?_ | (refine J _ ?_; clear J K))
 all_goals exact z03 rfl
end
section
open Abs Facts Tr
namespace Tr
end Tr
end
section
open Abs Facts Tr
structure VerOK (H : HM) (n t : Nat) (v : V) : Prop where
 lt : t < n
 at_ : H t = some (treeB (.ptr v.num 0))
 st : Stand H v
 un : Under n v
 ok : standsT (treeV v) = true
section
variable {H H' : HM} {n n' t : Nat} {v : V}
theorem VerOK.keep (h : VerOK H n t v) (ha : Agree n H H') (hn : n <= n') : VerOK H' n' t v :=
 ⟨by have := h.lt; omega, (ha _ h.lt).trans h.at_, Stand.agree ha v h.un h.st, h.un.le hn, h.ok⟩
theorem VerOK.but (h : VerOK H n t v) {k e m : Nat} {cs : List D} (hk : H k = some (.box e cs) /\ e ≠ 117 /\ e ≠ 78 \/ H k = some (.row e m cs) /\ e ≠ 75) (ha : ∀ j, j ≠ k -> j < n -> H' j = H j) (hn : n <= n') : VerOK H' n' t v := by
 have hne : ∀ j ∈ objsV v, j ≠ k := fun j hj ej => by
  subst ej
  rcases zmn _ h.st j hj with ⟨cs2, h2⟩ | ⟨n2, cs2, h2⟩
  ·rcases hk with ⟨hk, h3, _⟩ | ⟨hk, _⟩
   ·rw [hk] at h2; simp only [Option.some.injEq, HObj.box.injEq] at h2; exact h3 h2.1
   ·rw [hk] at h2; cases h2
  ·rcases hk with ⟨hk, _⟩ | ⟨hk, h3⟩
   ·rw [hk] at h2; cases h2
   ·rw [hk] at h2; simp only [Option.some.injEq, HObj.row.injEq] at h2; exact h3 h2.1
 have hte : t ≠ k := fun ej => by
  have h2 := h.at_
  subst ej
  rcases hk with ⟨hk, _, h3⟩ | ⟨hk, _⟩
  ·rw [hk] at h2; unfold treeB at h2; simp only [Option.some.injEq, HObj.box.injEq] at h2; exact h3 h2.1
  ·rw [hk] at h2; cases h2
 exact ⟨by have := h.lt; omega, (ha _ hte h.lt).trans h.at_, Stand.on v (fun j hj => ha j (hne j hj) (h.un j hj)) h.st, h.un.le hn, h.ok⟩
theorem VerOK.sz (h : VerOK H n t v) : szB (treeV v) = true /\ cntT (treeV v) <= 1024 /\ depT (treeV v) <= 8 := z66 h.ok
theorem VerOK.unit (h : VerOK H n t v) : RC prog 14 [.ptr t 0] H n (z0m (treeV v)) := zgg h.sz.1 h.lt h.at_ h.un h.st
theorem VerOK.len (h : VerOK H n t v) : RC prog 15 [.ptr t 0] H n (.int .i64 (cntT (treeV v))) := rc_Len h.sz.1 (by have := h.sz; omega) h.lt h.at_ h.un h.st
theorem VerOK.new0 (h : VerOK H n t v) : RC prog 21 [.ptr t 0, .nptr] H n (.int .i64 (cntT (treeV v))) := zl3 h.sz.1 (by have := h.sz; omega) h.lt h.at_ h.un h.st
theorem VerOK.new (h : VerOK H n t v) {t2 : Nat} {w : V} (h2 : VerOK H n t2 w) : RC prog 21 [.ptr t 0, .ptr t2 0] H n (.int .i64 (zz3 v w)) :=
 z8u h.sz.1 (by have := h.sz; omega) h.lt h.at_ h.un h.st h2.sz.1 h2.lt h2.at_ h2.un h2.st
theorem VerOK.up (h : VerOK H n t v) {o : Up} (ho : UpOK o) : Det 23 [.ptr t 0, z3a o] H n (UpdOK (opE (treeV v) o) (opT (treeV v) o) (opM (treeV v) o) v H n) := det_do h.ok h.lt h.at_ h.un h.st ho
end
end
end Go.Proofs.YtmnabhhdiinfaaaGreatDoor
namespace Go.Proofs.YtmnabhhdiinfaaaGreatDoor.Abs
open Go.RowKit Go.Lib
variable {P : Program}
def anyA (P : Program) (own : List Nat) (ops : Array Oper) (K : St -> Prop) : Nat -> Array Bool -> St -> Prop
 | 0, listed, st => Region.ready .any ops listed = [] /\ K st
 | fuel + 1, listed, st => (Region.ready .any ops listed = [] -> K st) /\ ∀ i ∈ Region.ready .any ops listed, ∃ o, ops[i]? = some o /\ z2p P own (znr ops) [o] (anyA P own ops K fuel (listed.setIfInBounds i true)) st
theorem zsi {N : Nat} {own : List Nat} {ops : Array Oper} {K : St -> Prop} {Q : Exit -> Act -> World -> Prop} (hdst : ∀ (i : Nat) o, ops[i]? = some o -> z6s N o = true) :
  ∀ (fuel : Nat) (listed : Array Bool) (st : St) (s : RS) (a : Act) (w : World), anyA P own ops K fuel listed st -> Fr P N st s a w ->
  (∀ st' s' a' w', K st' -> Fr P N st' s' a' w' -> Step s w s' w' -> Q .normal a' w') -> wpAny P .any ops Q fuel listed a w := by
 intro fuel
 induction fuel with
 | zero =>
  intro listed st s a w h hf hk
  exact ⟨h.1, hk st s a w h.2 hf (Step.refl s w)⟩
 | succ fuel ih =>
  intro listed st s a w h hf hk
  refine ⟨fun hr => hk st s a w (h.1 hr) hf (Step.refl s w), fun i hi => ?_⟩
  obtain ⟨o, ho, hop⟩ := h.2 i hi
  have hdo := hdst i o ho
  unfold wpOp
  rw [ho]
  simp only
  simp only [z2p] at hop
  rw [zbz] at hop
  split at hop
  ·rename_i hg
   rw [if_pos (z43 hf hg)]
   exact .inl (zby hf hdo hop fun st' s' a' w' J hf' hs' => ih _ st' s' a' w' J hf' fun st2 s2 a2 w2 hK2 hf2 hs2 => hk st2 s2 a2 w2 hK2 hf2 (hs'.trans hs2))
  ·rename_i hg
   rw [if_neg (by rw [z43 hf hg]; simp)]
   exact ih _ _ s _ w hop (hf.put0 hdo zbx) hk
  ·cases hop
theorem sem_any {N id : Nat} {own : List Nat} {ops : Array Oper} {Q : Exit -> St -> Prop} {st : St} (hm : P.follows .mixedOrders = true) (hdst : ∀ o ∈ ops.toList, z6s N o = true) (h : anyA P own ops (Q .normal) ops.size (Array.replicate ops.size false) st) : Sem P N (.region id ops true) Q st := by
 intro s0 w0 s a w hf hs
 obtain ⟨hds, hdr⟩ := zgv (w' := { w with drawn := w.drawn + 1 }) hf.heap rfl rfl rfl rfl
 have hf' : Fr P N st s a { w with drawn := w.drawn + 1 } := ⟨hf.H, hf.nx, hf.size, hf.defers, hf.tmps, hdr⟩
 have hdst2 : ∀ (i : Nat) o, ops[i]? = some o -> z6s N o = true := fun i o ho => hdst o (by
  obtain ⟨h1, h2⟩ := (Array.getElem?_eq_some_iff.1 ho)
  rw [<- h2]; exact (Array.mem_toList_iff.2 (Array.getElem_mem h1)))
 exact wp_region_any hm (zsi (Q := zsd P N s0 w0 Q) hdst2 ops.size _ st s a _ h hf' fun st' s' a' w' J hf2 hs2 => ⟨st', s', J, hf2, hs.trans (hds.trans hs2)⟩)
def zlk (p : Nat -> Prop) : List Nat -> Prop
 | [] => True
 | i :: l => p i /\ zlk p l
theorem zpr {p : Nat -> Prop} : ∀ {l : List Nat}, zlk p l -> ∀ i ∈ l, p i
 | [], _, i, hi => by cases hi
 | j :: l, h, i, hi => by
  rcases List.mem_cons.1 hi with rfl | hi
  ·exact h.1
  ·exact zpr h.2 i hi
def zll : List Oper -> Nat -> (Oper -> Prop) -> Prop
 | [], _, _ => False
 | o :: _, 0, p => p o
 | _ :: l, i + 1, p => zll l i p
theorem zps {p : Oper -> Prop} : ∀ (l : List Oper) (i : Nat), zll l i p -> ∃ o, l[i]? = some o /\ p o
 | [], _, h => h.elim
 | o :: _, 0, h => ⟨o, rfl, h⟩
 | _ :: l, i + 1, h => by
  obtain ⟨o, h1, h2⟩ := zps l i h
  exact ⟨o, by simpa using h1, h2⟩
theorem z38 {own : List Nat} {os : List Oper} {K : St -> Prop} {fuel : Nat} {listed : Array Bool} {st : St} {i : Nat} {l : List Nat} (hl : Region.ready .any os.toArray listed = i :: l)
  (h : zlk (fun i => zll os i fun o => z2p P own (znr os.toArray) [o] (anyA P own os.toArray K fuel (listed.setIfInBounds i true)) st) (i :: l)) : anyA P own os.toArray K (fuel + 1) listed st :=
 ⟨(fun h0 => by rw [hl] at h0; cases h0), fun j hj => by
  obtain ⟨o, h1, h2⟩ := zps _ _ (zpr h j (by rw [<- hl]; exact hj))
  exact ⟨o, by simpa using h1, h2⟩⟩
theorem anyA_end {own : List Nat} {ops : Array Oper} {K : St -> Prop} {listed : Array Bool} {st : St} (hl : Region.ready .any ops listed = []) (h : K st) : anyA P own ops K 0 listed st := ⟨hl, h⟩
theorem Sem.join {N : Nat} {x y : Code} {Q : Exit -> St -> Prop} {st : St} (I : St -> Prop) (h2 : Sem P N x (zu7 I Q) st) (h1 : ∀ st, I st -> Sem P N y Q st) : Sem P N (.seq x y) Q st := by
 intro s0 w0 s a w hf hs
 refine wp_seq (wp_mono (h2 s0 w0 s a w hf hs) ?_)
 rintro e a' w' ⟨st', s', hq, hf', hs'⟩
 cases e with
 | normal => exact h1 st' hq s0 w0 s' a' w' hf' hs'
 | exit id => exact ⟨st', s', hq, hf', hs'⟩
 | goto l => exact ⟨st', s', hq, hf', hs'⟩
 | ret => exact ⟨st', s', hq, hf', hs'⟩
 | panic ch => exact ⟨st', s', hq, hf', hs'⟩
 | outgrown => exact ⟨st', s', hq, hf', hs'⟩
end Go.Proofs.YtmnabhhdiinfaaaGreatDoor.Abs
namespace Go.Proofs.YtmnabhhdiinfaaaGreatDoor
open _root_.Go.Proofs.Tryz
section
open Abs Facts Tr
attribute [local irreducible] awp
set_option maxRecDepth 100000
def G1 (u : T) (l : List Up) (H : HM) (n : Nat) (st : St) : Prop := st.t 1 = z5k l /\ ∃ ra rb t v, st.t 7 = .osl ra 1 /\ st.t 8 = .osl rb 1 /\ st.H ra = some (.row 30 1 [.ptr t 0]) /\ st.H rb = some (.row 49 1 (z0s (ofV u 0))) /\
 t < st.nx /\ st.H t = some (treeB (.ptr (V.num v) 0)) /\ Stand st.H v /\ Under st.nx v /\ treeV v = u /\ Agree n H st.H /\ n <= st.nx /\ ra < st.nx /\ rb < st.nx /\ n <= ra /\ n <= rb
set_option maxHeartbeats 16000000 in
theorem zsj (u : T) (hs : standsT u = true) (l : List Up) (ho : ∀ o ∈ l, UpOK o) (hl : l.length <= 12) (H : HM) (n : Nat) : AC prog 20 [z0m u, z5k l] H n fun r H' n' =>
  ∃ b m a x ra rb, r = .tup [.osl ra a.length, .osl rb a.length, .bool true] /\ H' ra = some (.row 30 a.length (a.map fun p => .ptr p.1 0)) /\ H' rb = some (.row 49 a.length (x.flatMap z0s)) /\ Inv b m H' n' a x /\ Agree n H H' /\ n <= n' /\ ra < n' /\ rb < n' /\ a.length <= 13 := by
 obtain ⟨hz, hcn, hd⟩ := z66 hs
 have hcu := z0f u
 have cNew := fun H n => zxm (H := H) (n := n) u hz (by omega) (by omega)
 have cOf := pc_Of15 u hz (by omega) 0
 rw [z0m, hcu] at cOf
 simp only [z0m, hcu] at cNew
 refine zak func20 rfl (by decide +kernel) (by simp [ntmps20]) ?_
 refine Sem.seq (Sem.walk (own := []) z8j (by decide +kernel) ?_)
 repeat' (first | ((refine zqr fun K J => ?_); (simp (disch := omega) only [go_sem, ↓reduceIte, z5k])) | (refine J _ ?_; clear J K))
 refine z9t ?_
 refine Sem.join (G1 u l H n) (sem_any (own := [17, 20]) z8j (by decide +kernel) ?_) fun st hG => ?_
 ·repeat' (first
   | refine anyA_end (by decide +kernel) ?_
   | (refine z38 (i := 0) (l := [3]) (by decide +kernel) ?_; simp only [zlk, zll]; refine ⟨?_, ?_, trivial⟩)
   | (refine z38 (i := 1) (l := [3]) (by decide +kernel) ?_; simp only [zlk, zll]; refine ⟨?_, ?_, trivial⟩)
   | (refine z38 (i := 2) (l := [3]) (by decide +kernel) ?_; simp only [zlk, zll]; refine ⟨?_, ?_, trivial⟩)
   | (refine z38 (i := 3) (l := []) (by decide +kernel) ?_; simp only [zlk, zll]; refine ⟨?_, trivial⟩)
   | (refine z38 (i := 2) (l := [4]) (by decide +kernel) ?_; simp only [zlk, zll]; refine ⟨?_, ?_, trivial⟩)
   | (refine z38 (i := 2) (l := []) (by decide +kernel) ?_; simp only [zlk, zll]; refine ⟨?_, trivial⟩)
   | (refine z38 (i := 4) (l := []) (by decide +kernel) ?_; simp only [zlk, zll]; refine ⟨?_, trivial⟩)
   | (refine z38 (i := 5) (l := [6]) (by decide +kernel) ?_; simp only [zlk, zll]; refine ⟨?_, ?_, trivial⟩)
   | (refine z38 (i := 5) (l := []) (by decide +kernel) ?_; simp only [zlk, zll]; refine ⟨?_, trivial⟩)
   | (refine z38 (i := 6) (l := []) (by decide +kernel) ?_; simp only [zlk, zll]; refine ⟨?_, trivial⟩)
   | (refine z38 (i := 7) (l := []) (by decide +kernel) ?_; simp only [zlk, zll]; refine ⟨?_, trivial⟩)
   | (refine z38 (i := 0) (l := []) (by decide +kernel) ?_; simp only [zlk, zll]; refine ⟨?_, trivial⟩)
   | (refine z38 (i := 1) (l := []) (by decide +kernel) ?_; simp only [zlk, zll]; refine ⟨?_, trivial⟩)
   | (refine z38 (i := 2) (l := [5]) (by decide +kernel) ?_; simp only [zlk, zll]; refine ⟨?_, ?_, trivial⟩)
   | (refine zcd (cNew _ _) fun o hF => ?_; obtain ⟨r, H', n'⟩ := o; obtain ⟨v, t, hr, ht0, ht1, hH, hst, hun, htr, -, -⟩ := hF.good hs; have hle := hF.le; have hag := hF.agree; clear hF; simp [st0, St.withH, St.put] at hr ht0 ht1 hH hst hun hle hag; subst hr; have hbx := hag n (by omega); simp [z0k] at hbx; have hne : (n == n') = false := za1 (by omega))
   | (refine zqs cOf ?_)
   | ((simp (disch := omega) only [go_sem, Nat.reduceBEq, ↓reduceIte, Nat.reduceAdd, Nat.reduceLeDiff, hbx, hne]))
   | ((simp (disch := omega) only [go_sem, Nat.reduceBEq, ↓reduceIte, Nat.reduceAdd, Nat.reduceLeDiff, hcu])))
  all_goals
   show G1 u l H n _
   have hk : Agree n' H' (z0k (z0k H' n' (some (.row 30 1 [.ptr t 0]))) (n' + 1) (some (.row 49 1 (z0s (ofV u 0))))) := (Agree.upd (Nat.le_refl _)).trans (Nat.le_refl _) (Agree.upd (by omega))
   have hk2 : Agree n' H' (z0k (z0k H' n' (some (.row 49 1 (z0s (ofV u 0))))) (n' + 1) (some (.row 30 1 [.ptr t 0]))) := (Agree.upd (Nat.le_refl _)).trans (Nat.le_refl _) (Agree.upd (by omega))
   have hgn : Agree n H H' := fun j hj => (hag j (by omega)).trans (z01 _ (by omega))
   first
    | exact ⟨by (simp (disch := omega) only [go_sem, Nat.reduceBEq, z5k]), n', n' + 1, t, v, by (simp (disch := omega) only [go_sem, Nat.reduceBEq]), by (simp (disch := omega) only [go_sem, Nat.reduceBEq]), by simp [St.withH, St.put, z0k], by simp [St.withH, St.put, z0k, z1l], by simp [St.withH, St.put]; omega, (hk _ ht1).trans hH, Stand.agree hk v hun hst, hun.le (by simp [St.withH, St.put]; omega), htr, hgn.trans (by omega) hk, by simp [St.withH, St.put]; omega, by simp [St.withH, St.put]; omega, by simp [St.withH, St.put], by omega, by omega⟩
    | exact ⟨by (simp (disch := omega) only [go_sem, Nat.reduceBEq, z5k]), n' + 1, n', t, v, by (simp (disch := omega) only [go_sem, Nat.reduceBEq]), by (simp (disch := omega) only [go_sem, Nat.reduceBEq]), by simp [St.withH, St.put, z0k], by simp [St.withH, St.put, z0k, z1l], by simp [St.withH, St.put]; omega, (hk2 _ ht1).trans hH, Stand.agree hk2 v hun hst, hun.le (by simp [St.withH, St.put]; omega), htr, hgn.trans (by omega) hk2, by simp [St.withH, St.put]; omega, by simp [St.withH, St.put], by simp [St.withH, St.put]; omega, by omega, by omega⟩
 obtain ⟨h1, ra, rb, t, v, h7, h8, hra, hrb, ht, hHt, hst, hun, htr, hag, hnn, hran, hrbn, hnra, hnrb⟩ := hG
 have hab : (ra == rb) = false := by
  rw [beq_eq_false_iff_ne]
  intro h; rw [h, hrb] at hra; cases hra
 have hba : (rb == ra) = false := by
  rw [beq_eq_false_iff_ne]
  intro h; rw [h, hra] at hrb; cases hrb
 have hnab : ¬ ra = rb := beq_eq_false_iff_ne.1 hab
 refine Sem.walk (own := [4000043, 10000043, 12000049, 12000050, 3000053, 3000054, 5000057, 3000077]) z8j (by decide +kernel) ?_
 repeat' (first | refine zqj ?_ | ((refine zqh fun K J => ?_); (simp (disch := omega) only [go_sem, Nat.reduceBEq, ↓reduceIte, reduceCtorEq, Nat.reduceAdd, Int.reduceLE, h7, hra])) | ((refine zqd _ rfl (fun hc => ?_) (fun hc => ?_)) <;> (first | (cases hc; done) | ((try simp only [] at hc); (try omega)))) | refine zqa ?_ | refine zqb ?_ | (refine J _ ?_; clear J K))
 (refine z4m (fun U st => ∃ (i : _) (a : List (Nat × V)) (x : List Vn), U = l.length - i /\ st.t 1 = z5k l /\ st.t 7 = .osl ra a.length /\ st.t 8 = .osl rb a.length /\ st.t 9 = .int .i64 i /\ st.H (ra) = some (.row 30 a.length (a.map fun p => .ptr p.1 0)) /\ st.H (rb) = some (.row 49 a.length (x.flatMap z0s)) /\ (i <= l.length) /\ (0 < a.length) /\ (a.length <= i + 1) /\ (∃ b, Inv b (i + 1) st.H st.nx a x) /\ (Agree n H st.H) /\ (n <= st.nx) /\ (ra < st.nx) /\ (rb < st.nx)) ?_ ?_); rotate_left; (rintro U st ⟨i, a, x, rfl, q1, q7, q8, q9, qHra, qHrb, qp0, qp1, qp2, qp3, qp4, qp5, qp6, qp7⟩); rotate_left
 ·(refine ⟨_, 0, [(t, v)], [ofV u 0], rfl, ?_⟩); (simp (disch := omega) only [go_sem, Nat.reduceBEq, Nat.reduceLeDiff, Nat.reduceLT, true_and, Int.natCast_zero, List.map_nil, h1, h7, h8, hra, hrb])
  refine ⟨by simp, ⟨_, zy5 ht hHt hst hun htr hs⟩, hag, hnn, hran, hrbn⟩
 by_cases hi : i < l.length
 ·have hg := (show (l.map z3a)[i]? = some (z3a l[i]) from by rw [List.getElem?_map, List.getElem?_eq_getElem hi]; rfl)
  obtain ⟨b, hinv⟩ := qp3
  obtain ⟨k, hk⟩ : ∃ k, k = a.length - 1 := ⟨_, rfl⟩
  have hk1 : k < a.length := by omega
  have hlen := hinv.len
  obtain ⟨kt, kH, kst, kun, hsu⟩ := hinv.tr a[k] (List.getElem_mem hk1)
  have hup := ho l[i] (List.getElem_mem hi)
  have hgk : (a.map fun p => D.ptr p.1 0)[k]? = some (.ptr a[k].1 0) := by rw [List.getElem?_map, List.getElem?_eq_getElem hk1]; rfl
  have hxk : ((x.flatMap z0s).drop (k * 9)).take 9 = z0s x[k] := zft (f := z0s) (sz := 9) (fun _ => rfl) (by omega)
  have hxl : (x.flatMap z0s).length = a.length * 9 := by rw [z58 (f := z0s) (sz := 9) (fun _ => rfl), hlen]
  have hf := (zy7 hinv hk1)
  have hfit := (hinv.fit k hk1).u
  have hdo := det_do (n := st.nx) hsu kt kH kun kst hup
  have cw := pc_want hf.2 (by omega) hup (i + 1)
  have hop := zye (u := x[k].u) (o := l[i])
  have hstep : z5p (opE x[k].u l[i]) x[k] (opT x[k].u l[i]) (opM x[k].u l[i]) (i + 1) = if opE x[k].u l[i] = 0 then z80 x[k] (opT x[k].u l[i]) (opM x[k].u l[i]) (i + 1) else x[k] := rfl
  rw [<- hfit] at cw hop
  have hkn : (a.length : Int) - 1 = (k : Int) := by omega
  have hul : (zbm l[i]).length = 18 := by rw [z3h]; rfl
  rw [z3a] at hg hdo cw
  repeat' (first | refine zqj ?_ | ((first | refine zqh fun K J => ?_ | refine zqe (by decide +kernel) fun K J => ?_); (simp (disch := omega) only [go_sem, Nat.reduceBEq, Nat.reduceEqDiff, ↓reduceIte, reduceCtorEq, Nat.reduceAdd, q1, q7, q9, qHra, z5k, z3a, hgk, hkn, hul])) | ((refine zqd _ rfl (fun hc => ?_) (fun hc => ?_)) <;> (((try simp only [z0b] at hc); (try omega)))) | refine zqa ?_ | refine zqb ?_ | (refine J _ ?_; clear J K))
  refine zwd hdo rfl rfl rfl (fun o ho => ⟨ho.le, ho.agree⟩) fun o hF => ?_
  obtain ⟨r, H2, n2⟩ := o
  have hle2 := hF.le
  have hag2 := hF.agree
  simp only at hle2 hag2
  have gA := (hag2 ra qp6).trans qHra
  have gB := (hag2 rb qp7).trans qHrb
  have hB : ∀ c1 c2, Agree n2 H2 (z0k (z0k H2 n2 c1) n2 c2) := fun c1 c2 j hj => by rw [z01 _ (by omega), z01 _ (by omega)]
  have hagn := qp4.trans qp5 hag2
  have hrb2 : rb < n2 := by omega
  have hra2 : ra < n2 := by omega
  have k1 : (ra == n2) = false := beq_eq_false_iff_ne.2 (by omega)
  have k2 : (rb == n2) = false := beq_eq_false_iff_ne.2 (by omega)
  have k3 : (n2 == ra) = false := beq_eq_false_iff_ne.2 (by omega)
  have k4 : (n2 == rb) = false := beq_eq_false_iff_ne.2 (by omega)
  have hsp : ∀ y : Vn, z1z [D.int .i64 0, .int .i64 0, .int .i64 0, .int .i64 0, .str ByteArray.empty, .nil, .nil, .nil, .nil] 0 (z0s y) = z0s y := fun _ => rfl
  have hl0 : ∀ y : Vn, (z0s y).length = 9 := fun _ => rfl
  have htk9 : ∀ y : Vn, (z0s y).take 9 = z0s y := fun _ => rfl
  rw [z1l] at cw
  have hl9 : (z0s x[k]).length = 9 := rfl
  by_cases he : opE (treeV a[k].2) l[i] = 0
  ·obtain ⟨v2, t2, hr, -, ht2, hH2, hst2, hun2, htr2, hup2, -⟩ := hF.good he
   simp only at hr ht2 hH2 hst2 hun2
   subst hr
   clear hF
   rw [he] at cw
   repeat' (first | refine zqj ?_ | ((first | refine zqh fun K J => ?_ | refine zqe (by decide +kernel) fun K J => ?_ | refine zqr fun K J => ?_ | refine zqq (by decide +kernel) fun K J => ?_ | refine zqt (cw) ?_); (simp (disch := omega) only [go_sem, Nat.reduceBEq, Nat.reduceEqDiff, ↓reduceIte, reduceCtorEq, Nat.reduceAdd, Nat.reduceMul, Nat.reduceLeDiff, Nat.reduceLT, q1, q7, q8, q9, gA, gB, hxk, hxl, z3a, z5k, hul, hrb2, k1, k2, k3, hba, hl0, htk9, hsp, z1l])) | ((first | refine zqd _ rfl (fun hc => ?_) (fun hc => ?_) | refine zqm _ rfl (fun hc => ?_) (fun hc => ?_)) <;> (first | (cases hc; done) | ((try simp only [] at hc); (try omega)))) | refine zqb ?_ | refine zqv ?_ | refine zqy ?_ | (refine J _ ?_; clear J K))
   have hu2 : standsT (opT (treeV a[k].2) l[i]) = true := hop he
   have hst3 := zk5 (o := (.nptr, H2, n2)) hinv (by omega) hk1 hu2 hle2 hag2 ht2 hH2 hst2 hun2 htr2 hup2
   (refine Exists.intro _ (And.intro ?_ ⟨i + 1, a ++ [(t2, v2)], x ++ [z80 x[k] (opT (treeV a[k].2) l[i]) (opM (treeV a[k].2) l[i]) (i + 1)], rfl, ?_⟩)); rotate_left; (simp (disch := omega) only [go_sem, Nat.reduceBEq, Nat.reduceLeDiff, q1, q7, q8, q9, true_and, and_true, and_self, Int.natCast_add, Int.natCast_one, List.flatMap_append, List.flatMap_cons, List.flatMap_nil, List.map_append, List.map_cons, List.map_nil, List.append_nil, gA, gB, k1, k2, List.map_append, List.flatMap_append, List.length_append]); rotate_left
   ·omega
   have e5 : z5p 0 x[k] (opT (treeV a[k].2) l[i]) (opM (treeV a[k].2) l[i]) (i + 1) = z80 x[k] (opT (treeV a[k].2) l[i]) (opM (treeV a[k].2) l[i]) (i + 1) := rfl
   refine ⟨by rw [hab]; rfl, by rw [e5], by omega, by omega, ⟨_, zy6 (zy6 (zfe hst3 (hB _ _) (Nat.le_succ n2)) (r := ra) (e := 30) (((hB _ _) ra hra2).trans gA) (by decide) _) (r := rb) (e := 49) (by rw [z01 _ (by omega)]; exact ((hB _ _) rb hrb2).trans gB) (by decide) _⟩, ?_, by omega⟩
   exact (hagn.trans (by omega) (hB _ _)).trans (Nat.le_refl _) (((Agree.upd hnra).trans (Nat.le_refl _) (Agree.upd hnrb)))
  ·have hr := hF.bad he
   simp only at hr
   subst hr
   clear hF
   repeat' (first | refine zqj ?_ | ((first | refine zqh fun K J => ?_ | refine zqe (by decide +kernel) fun K J => ?_ | refine zqr fun K J => ?_ | refine zqt (cw) ?_); (simp (disch := omega) only [go_sem, Nat.reduceBEq, Nat.reduceEqDiff, ↓reduceIte, reduceCtorEq, Nat.reduceAdd, Nat.reduceLeDiff, q1, q8, q9, gB, hxk, hxl, z3a, z5k, hul, hrb2, hl0, hsp, he, z1l])) | ((first | refine zqd _ rfl (fun hc => ?_) (fun hc => ?_) | refine zqm _ rfl (fun hc => ?_) (fun hc => ?_)) <;> (first | (cases hc; done) | ((try simp only [] at hc); (try omega)))) | refine zqb ?_ | refine zqk ?_ | refine zqv ?_ | refine zqy ?_ | (refine J _ ?_; clear J K))
   (refine Exists.intro _ (And.intro ?_ ⟨i + 1, a, x, rfl, ?_⟩)); rotate_left; (simp (disch := omega) only [go_sem, Nat.reduceBEq, q1, q7, q8, q9, true_and, and_true, and_self, Int.natCast_add, Int.natCast_one, gA, gB, k1, k2]); rotate_left
   ·omega
   ·exact ⟨by omega, qp1, by omega, ⟨b, zfe (inv_mono (zfe hinv hag2 hle2) (by omega)) (hB _ _) (by omega)⟩, hagn.trans (by omega) (hB _ _), by omega⟩
 ·skip
  repeat' (first | refine zqj ?_ | ((refine zqh fun K J => ?_); (simp (disch := omega) only [go_sem, Nat.reduceBEq, ↓reduceIte, q1, q7, q8, q9, z5k])) | ((refine zqd _ rfl (fun hc => ?_) (fun hc => ?_)) <;> (((try simp only [z0b] at hc); (try omega)))) | refine zqc ?_ | refine zqn ?_ | refine zqv ?_ | refine zqz ?_ | refine zqp ?_ | refine zqu (by simp only [go_sem]; rfl) rfl ?_ | (refine J _ ?_; clear J K))
  obtain ⟨b, hinv⟩ := qp3
  exact ⟨b, (i : Int) + 1, a, x, ra, rb, by (simp (disch := omega) only [go_sem, Nat.reduceBEq]), qHra, qHrb, hinv, qp4, qp5, qp6, qp7, by omega⟩
theorem zho (u : T) (hfit : fitB u = true) (l : List Up) (hl : l.length <= maxLen) (hin : ∀ o ∈ l, UpIn o) : PC prog 5 [z0m u, z5k l] (.bool true) := by
 have ha := zta
 have hf := pc_few15 u hfit l hl hin
 refine z1g 1 (by simp only [pureD.pureL, z02, zh0, Bool.and_self]) rfl (z14 [] func5 rfl (by decide +kernel) rfl ?_)
 show awp _ _ (Code.seq _ _) _ _
 have hcu := z0f u
 by_cases hb0 : (l.all zmw && (decide (l.length <= 12) && fewB u 40)) = true
 ·have hb1 := hb0
  rw [hb0] at hf
  simp only [Bool.and_eq_true, decide_eq_true_eq, List.all_eq_true] at hb1
  obtain ⟨hb1, hb2, hb3⟩ := hb1
  obtain ⟨hs, hcn, hd⟩ := few_sz (by omega) (by omega) hb3
  have c1 := z5t u hs (by omega) (by omega)
  have ho : ∀ o ∈ l, UpOK o := fun o h => few_ok (hin o h) (hb1 o h)
  by_cases hst : standsT u = true
  ·rw [hst] at c1
   repeat' (first | refine zqj ?_ | ((first | refine zqh fun K J => ?_ | refine zqs (ha) ?_ | refine zqs (hf) ?_ | refine zqs (c1) ?_); (simp (disch := omega) only [go_sem, Nat.reduceBEq, ↓reduceIte, Nat.reduceAdd, Nat.reduceLeDiff, z0m, z5k])) | ((refine zqd _ rfl (fun hc => ?_) (fun hc => ?_)) <;> (first | (cases hc; done) | ((try simp only [] at hc); (try omega)))) | refine zqb ?_ | (refine J _ ?_; clear J K))
   refine z1m ((zsj u hst l ho hb2 _ _).mono fun r' H' n' J => ?_)
   obtain ⟨b, m, a, x, ra, rb, hr, hra, hrb, hinv, -, -, hran, hrbn, h13⟩ := J
   subst hr
   (try (simp (disch := omega) only [go_sem, Nat.reduceBEq])); repeat' (first | refine zqj ?_ | ((refine zqh fun K J => ?_); (simp (disch := omega) only [go_sem, Nat.reduceBEq])) | ((refine zqd _ rfl (fun hc => ?_) (fun hc => ?_)) <;> (first | (cases hc; done) | ((try simp only [] at hc); (try omega)))) | refine zqa ?_ | refine zqb ?_ | (refine J _ ?_; clear J K))
   repeat' skip
   (refine z4m (fun U st => ∃ (i : _), U = a.length - i /\ st.t 5 = .osl ra a.length /\ st.t 6 = .osl rb a.length /\ st.t 34 = .int .i64 a.length /\ st.t 35 = .int .i64 i /\ st.nx = n' /\ (i <= a.length) /\ (st.H = H')) ?_ ?_); rotate_left; (rintro U st ⟨i, rfl, p5, p6, p34, p35, pnx, pp0, pp1⟩); rotate_left
   ·(refine ⟨_, 0, rfl, ?_⟩); (simp (disch := omega) only [go_sem, Nat.reduceBEq, and_self, Int.natCast_zero])
   subst pp1
   have hlen := hinv.len
   have hxl : (x.flatMap z0s).length = a.length * 9 := by rw [z58 (f := z0s) (sz := 9) (fun _ => rfl), hlen]
   have hver : ∀ j (hj : j < a.length), VerOK st.H n' a[j].1 a[j].2 := fun j hj => by
    obtain ⟨h1, h2, h3, h4, h5⟩ := hinv.tr a[j] (List.getElem_mem hj)
    exact ⟨h1, h2, h3, h4, h5⟩
   have hget : ∀ j (hj : j < a.length), (a.map fun p => D.ptr p.1 0)[j]? = some (.ptr a[j].1 0) := fun j hj => by rw [List.getElem?_map, List.getElem?_eq_getElem hj]; rfl
   have hvn : ∀ j (hj : j < a.length), ((x.flatMap z0s).drop (j * 9)).take 9 = z0s (x[j]'(by omega)) := fun j hj => zft (f := z0s) (sz := 9) (fun _ => rfl) (by omega)
   by_cases hi : i < a.length
   ·have k1 := (hver i hi).new0
    have k2 := (hver i hi).len
    have hgi := hget i hi
    have hvi := hvn i hi
    repeat' (first | refine zqj ?_ | ((first | refine zqh fun K J => ?_ | refine zqe (by decide +kernel) fun K J => ?_ | refine zc8 (k1) rfl ?_ | refine zc8 (k2) rfl ?_); (simp (disch := omega) only [go_sem, Nat.reduceBEq, ↓reduceIte, reduceCtorEq, Nat.reduceAdd, p5, p34, p35, pnx, hra, hgi])) | ((refine zqd _ rfl (fun hc => ?_) (fun hc => ?_)) <;> (first | (cases hc; done) | ((try simp only [z0b] at hc); (try omega)))) | refine zqa ?_ | refine zqi ?_ | refine zqb ?_ | (refine J _ ?_; clear J K))
    obtain ⟨H2, hH2⟩ : ∃ H2, H2 = st.H := ⟨_, rfl⟩
    rw [<- hH2] at hra hrb hver
    (refine z4m (fun U st => ∃ (k : _), U = a.length - k /\ st.t 5 = .osl ra a.length /\ st.t 6 = .osl rb a.length /\ st.t 8 = .int .i64 i /\ st.t 34 = .int .i64 a.length /\ st.t 35 = .int .i64 i /\ st.t 50 = .int .i64 a.length /\ st.t 51 = .int .i64 k /\ st.nx = n' /\ (k <= a.length) /\ (st.H = H2)) ?_ ?_); rotate_left; (rintro U st ⟨k, rfl, q5, q6, q8, q34, q35, q50, q51, qnx, qp0, qp1⟩); rotate_left
    ·(refine ⟨_, 0, rfl, ?_⟩); (simp (disch := omega) only [go_sem, Nat.reduceBEq, p5, p6, p34, p35, true_and, Int.natCast_zero])
     exact hH2.symm
    subst qp1
    by_cases hk : k < a.length
    ·have k3 := (hver i hi).new (hver k hk)
     rw [zcv hinv hi hk] at k3
     have cf := ztv (x[i]'(by omega)) (x[k]'(by omega)) (by have := zy7 hinv hi; omega) (by have := zy7 hinv hk; omega)
     rw [z1l, z1l] at cf
     have hgk := hget k hk
     have hvk := hvn k hk
     repeat' (first | ((first | refine zqh fun K J => ?_ | refine zqe (by decide +kernel) fun K J => ?_ | refine zqr fun K J => ?_ | refine zc8 (k3) rfl ?_ | refine zqt (cf) ?_); (simp (disch := omega) only [go_sem, Nat.reduceBEq, ↓reduceIte, reduceCtorEq, Nat.reduceAdd, q5, q6, q8, q50, q51, qnx, hra, hrb, hgi, hgk, hvi, hvk, hxl])) | ((first | refine zqd _ rfl (fun hc => ?_) (fun hc => ?_) | refine zqm _ rfl (fun hc => ?_) (fun hc => ?_)) <;> (first | (cases hc; done) | ((try simp only [z0b] at hc); (try omega)))) | refine zqa ?_ | refine zqb ?_ | refine zqk ?_ | refine zqv ?_ | refine zqy ?_ | (refine J _ ?_; clear J K))
     (refine Exists.intro _ (And.intro ?_ ⟨k + 1, rfl, ?_⟩)); rotate_left; (simp (disch := omega) only [go_sem, Nat.reduceBEq, q5, q6, q8, q34, q35, q50, q51, true_and, and_true, Int.natCast_add, Int.natCast_one]); rotate_left
     all_goals omega
    ·skip
     repeat' (first | ((first | refine zqh fun K J => ?_ | refine zqr fun K J => ?_); (simp (disch := omega) only [go_sem, Nat.reduceBEq, ↓reduceIte, q35, q50, q51])) | ((refine zqd _ rfl (fun hc => ?_) (fun hc => ?_)) <;> (((try simp only [z0b] at hc); (try omega)))) | refine zqc ?_ | refine zqv ?_ | refine zqy ?_ | refine zqz ?_ | refine zqp ?_ | (refine J _ ?_; clear J K))
     (refine Exists.intro _ (And.intro ?_ ⟨i + 1, rfl, ?_⟩)); rotate_left; (simp (disch := omega) only [go_sem, Nat.reduceBEq, q5, q6, q34, q35, qnx, true_and, Int.natCast_add, Int.natCast_one]); rotate_left
     ·omega
     ·exact ⟨by omega, hH2⟩
   ·skip
    repeat' (first | ((refine zqh fun K J => ?_); (simp (disch := omega) only [go_sem, ↓reduceIte, p34, p35, pnx])) | ((refine zqd _ rfl (fun hc => ?_) (fun hc => ?_)) <;> (((try simp only [z0b] at hc); (try omega)))) | refine zqc ?_ | refine zqn ?_ | refine zqv ?_ | refine zqz ?_ | refine zqp ?_ | refine zqu (by simp only [go_sem]; rfl) rfl ?_ | (refine J _ ?_; clear J K))
    exact z03 rfl
  ·rw [Bool.not_eq_true] at hst
   rw [hst] at c1
   repeat' (first | refine zqj ?_ | ((first | refine zqh fun K J => ?_ | refine zqs (ha) ?_ | refine zqs (hf) ?_ | refine zqs (c1) ?_); (simp (disch := omega) only [go_sem, Nat.reduceBEq, ↓reduceIte, Nat.reduceAdd, Nat.reduceLeDiff, z0m, z5k])) | ((refine zqd _ rfl (fun hc => ?_) (fun hc => ?_)) <;> (first | (cases hc; done) | ((try simp only [] at hc); (try omega)))) | refine zqg ?_ | refine zqu (by simp only [go_sem]; rfl) rfl ?_ | (refine J _ ?_; clear J K))
   exact z03 rfl
 ·rw [Bool.not_eq_true] at hb0
  rw [hb0] at hf
  repeat' (first | refine zqj ?_ | ((first | refine zqh fun K J => ?_ | refine zqs (ha) ?_ | refine zqs (hf) ?_); (simp (disch := omega) only [go_sem, Nat.reduceBEq, ↓reduceIte, Nat.reduceAdd, Nat.reduceLeDiff, z0m, z5k])) | ((refine zqd _ rfl (fun hc => ?_) (fun hc => ?_)) <;> (first | (cases hc; done) | ((try simp only [] at hc); (try omega)))) | refine zqg ?_ | refine zqu (by simp only [go_sem]; rfl) rfl ?_ | (refine J _ ?_; clear J K))
  exact z03 rfl
end
end Go.Proofs.YtmnabhhdiinfaaaGreatDoor
