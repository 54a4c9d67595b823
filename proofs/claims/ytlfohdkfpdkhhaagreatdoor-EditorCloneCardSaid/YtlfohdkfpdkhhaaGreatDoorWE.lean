import Derived.Test.YtlfohdkfpdkhhaaGreatDoorWD
/-
 Lemmas of the claim. No condition but those that each names.
-/
set_option linter.unusedSimpArgs false
set_option linter.unusedVariables false
set_option maxRecDepth 100000
set_option maxHeartbeats 8000000
set_option linter.unusedSectionVars false
namespace Go.Proofs.YtlfohdkfpdkhhaaGreatDoor
open _root_.Go.Proofs.Tryz
section
open Abs Facts Go.Lib Go.RowKit
theorem zvz {P : Program} {s : RS} {w : World} (h : RH P s w) {nn : Bool} {sz : Nat} {els : List D} {v : Value} {a : Addr} {m c : Nat} (hr : rel s (.rsl nn sz els) v) (hv : v = .slice (some a) m c) (hpos : 0 < els.length) (hsz : 0 < sz) : ¬ owned s a.block := by
 simp only [rel] at hr
 rcases hr with ⟨_, rfl, _⟩ | ⟨a', cap, vs, rfl, _, _, hra, hlies⟩
 ·simp at hpos
 ·cases hv
  have hl := z0e hra
  have h0 : vs[0]? = some vs[0] := List.getElem?_eq_getElem (by omega)
  obtain ⟨h1, h2⟩ := hlies 0 _ h0
  have h7 : 0 < (vs[0]).cells.toList.length := by rw [Array.length_toList]; omega
  have h3 := List.getElem?_eq_getElem h7
  have h4 := h2 0 _ h3
  have h5 := (h.mem _ _ h4).2
  have h6 : ((a.add (0 * sz)).add 0).block = a.block := by
   have hb : ∀ (x : Addr) (k : Nat), (x.add k).block = x.block := fun x k => by unfold Addr.add; split <;> rfl
   rw [hb, hb]
  rw [h6] at h5
  exact h5
set_option maxHeartbeats 2000000 in
theorem zw0 {H : HM} {nx id n i : Nat} {nn : Bool} {cs us els : List D} (hid : H id = some (.row 27 n cs)) (hi : i <= n) (hm : 0 < els.length) (hus : z1w 8 els = some us) (hb : n + els.length <= 1000000000) :
  AC prog 180 [.osl id n, .int .i64 i, .rsl nn 8 els] H nx fun r H' nx' => r = .osl id (n + els.length) /\ H' = z12 H id (some (.row 27 (n + els.length) (cs.take (i * 8) ++ us ++ cs.drop (i * 8)))) /\ nx' = nx := by
 refine ⟨⟨_, func180, by kernel_rfl, by kernel_rfl⟩, fun s w vs h1 h2 h h4 => ?_⟩
 subst h1; subst h2
 simp only [relAll] at h4
 obtain ⟨v, r1, rfl, hv, v2, r2, rfl, hv2, v3, r3, rfl, hv3, rfl⟩ := h4
 simp only [rel] at hv hv2
 subst hv2
 obtain ⟨hidn, _, hlive⟩ := hv
 have hv := (hlive _ _ _ hid).2 rfl
 subst hv
 obtain ⟨xs, ho, hrv, hov, _, _⟩ := z4k h hid
 rw [z2s] at ho
 have hsrc := z7x h (e := 27) (n := 8) (m := els.length) (news := us) (by omega) (y := .rsl nn 8 els) z2s (by simp only [zao, if_true, hus, Option.map_some]) hv3
 rcases hsrc with ⟨_, h0, _⟩ | ⟨a, c, ws, rfl, hrw, how, hwl, hwc⟩
 ·omega
 ·have hap := zvz h hv3 rfl hm (by omega)
  have hbt : z0s prog 27 <= 1000 := by
   have : decide (z0s prog 27 <= 1000) = true := by kernel_rfl
   exact of_decide_eq_true this
  have hne : (s.κ id).ownBlock ≠ some a.block := by
   rw [z7y ho]
   exact fun h5 => hap ⟨id, hidn, by rw [hid]; simp, h5⟩
  refine (ztr (w := w) (v := s.κ id) (n := n) (i := i) (m := els.length) (vc := c) (va := a) (xs := xs) (vs := ws) hi hm ho hov
   (by have := Nat.mul_le_mul hb hbt; omega) (by unfold maxLen; omega) hne hwl hwc how).mono ?_
  rintro e w' ⟨v', rfl, hown, hg, hbl⟩
  obtain ⟨g1, g2⟩ := z8f (w' := w') h id (.row 27 n cs) (.row 27 (n + els.length) (cs.take (i * 8) ++ us ++ cs.drop (i * 8))) v' hid hg.os hg.tape hg.output hg.size
   (fun k O hne => hg.block k O (by rw [z7y ho]; exact hne))
   (.inr ⟨n + els.length, _, rfl, Nat.le_add_right _ _, fun hnm => by omega⟩)
   (fun b hb => hbl b hb)
   (fun hl => ⟨xs.take (i * 8) ++ ws ++ xs.drop (i * 8), by rw [z2s]; exact hown, relAll.later hl _ _ (z1n (z1n (z4q _ hrv) hrw) (z7j _ hrv)), z3t (z3t (zap hov _) how) (zdk hov _)⟩)
  refine ⟨v', .osl id (n + els.length), s.set id v' (.row 27 (n + els.length) (cs.take (i * 8) ++ us ++ cs.drop (i * 8))), rfl, ⟨rfl, rfl, rfl⟩, g1, g2, ?_⟩
  simp only [rel]
  obtain ⟨a2, c2, hvs⟩ := za6 hown
  refine ⟨hidn, ⟨a2, c2, hvs⟩, fun e2 k2 cs2 hH => ?_⟩
  simp only [RS.set, z12, if_true, Option.some.injEq, HObj.row.injEq] at hH
  obtain ⟨_, rfl, _⟩ := hH
  exact ⟨Nat.le_refl _, fun _ => by simp [RS.set]⟩
def mvS (s : RS) (id : Nat) (v : Value) (o : HObj) : RS := { s with κ := fun j => if j = s.nx then v else s.κ j, H := z12 (z12 s.H id none) s.nx (some o), nx := s.nx + 1 }
theorem move_obj {P : Program} {s : RS} {w w' : World} (h : RH P s w) (id : Nat) {e : TypeId} {n : Nat} {cs : List D} (o' : HObj) (v : Value) (hid : s.H id = some (.row e n cs))
  (hos : w'.os = w.os) (ht : w'.tape = w.tape) (hout : w'.output = w.output) (hsz : w.heap.size <= w'.heap.size)
  (hold : ∀ k, k < w.heap.size -> some k ≠ blockOf (s.κ id) -> w'.heap[k]? = w.heap[k]?)
  (hb : ∀ b, blockOf v = some b -> blockOf (s.κ id) = some b \/ w.heap.size <= b) (hok : Later s (mvS s id v o') -> objOK P (mvS s id v o') w' v o') :
  Step s w (mvS s id v o') w' /\ RH P (mvS s id v o') w' := by
 have hidn := (h.obj id _ hid).1
 have hHo : ∀ j, j ≠ s.nx -> j ≠ id -> (mvS s id v o').H j = s.H j /\ (mvS s id v o').κ j = s.κ j := fun j h1 h2 => by
  simp only [mvS, z12, if_neg h1, if_neg h2, and_self]
 have hHn : (mvS s id v o').H s.nx = some o' /\ (mvS s id v o').κ s.nx = v := by simp only [mvS, z12, if_true, and_self]
 have hHi : (mvS s id v o').H id = none := by simp only [mvS, z12, if_neg (show ¬ id = s.nx by omega), if_true]
 have hl : Later s (mvS s id v o') := by
  refine ⟨Nat.le_succ _, fun a u hm => hm, fun j hj => ?_⟩
  by_cases hji : j = id
  ·subst hji; rw [hHi, hid]; exact .inl rfl
  ·obtain ⟨h1, h2⟩ := hHo j (by omega) hji
   rw [h1, h2]; exact objLe.refl _ _
 have hok := hok hl
 have hown : ∀ k, owned (mvS s id v o') k -> owned s k \/ w.heap.size <= k := by
  rintro k ⟨j, hj, hH, O⟩
  by_cases hjn : j = s.nx
  ·subst hjn
   rw [hHn.2] at O
   rcases hb k O with h1 | h1
   ·exact .inl ⟨id, hidn, by rw [hid]; simp, h1⟩
   ·exact .inr h1
  ·by_cases hji : j = id
   ·subst hji; exact absurd hHi hH
   ·obtain ⟨h1, h2⟩ := hHo j hjn hji
    rw [h1] at hH; rw [h2] at O
    exact .inl ⟨j, h.fresh hH, hH, O⟩
 refine ⟨⟨hos, ht, hout, hsz, hl.nx, hl.mem, fun a u hm => .inl hm, hl.objs, fun k O ho => hold k O (fun e => ho ⟨id, hidn, by rw [hid]; simp, e.symm⟩), hown⟩, ?_, ?_, ?_, fun g => rel.later hl _ _ (h.glob g)⟩
 ·intro a u hm
  have hlt := h.mem_lt hm
  obtain ⟨h1, h2⟩ := h.mem a u hm
  have hne : some a.block ≠ blockOf (s.κ id) := fun e => h2 ⟨id, hidn, by rw [hid]; simp, e.symm⟩
  refine ⟨by rw [z4v (hold _ hlt hne)]; exact h1, fun ho => ?_⟩
  rcases hown _ ho with h3 | h3
  ·exact h2 h3
  ·omega
 ·intro j oj ho'
  by_cases hjn : j = s.nx
  ·subst hjn
   rw [hHn.1] at ho'
   cases ho'
   rw [hHn.2]
   exact ⟨Nat.lt_succ_self _, hok⟩
  ·by_cases hji : j = id
   ·subst hji; rw [hHi] at ho'; cases ho'
   ·obtain ⟨g1, g2⟩ := hHo j hjn hji
    rw [g1] at ho'
    rw [g2]
    obtain ⟨h1, h2⟩ := h.obj j oj ho'
    refine ⟨Nat.lt_succ_of_lt h1, h2.mono hl fun b hb' => hold b (h2.lt hb') fun e => ?_⟩
    exact h.apart j id (by rw [ho']; simp) (by rw [hid]; simp) hji (by rw [hb']; simp) (by rw [hb', e])
 ·have key : ∀ j, j ≠ s.nx -> j ≠ id -> s.H j ≠ none -> blockOf v ≠ none -> blockOf v ≠ blockOf (s.κ j) := fun j h1 h2 h3 h4 e => by
   cases hbv : blockOf v with
   | none => exact h4 hbv
   | some b =>
    cases hs : s.H j with
    | none => exact h3 hs
    | some oj =>
     have hlt := (h.obj j oj hs).2.lt (b := b) (by rw [<- e, hbv])
     rcases hb b hbv with h5 | h5
     ·exact h.apart j id h3 (by rw [hid]; simp) h2 (by rw [<- e, hbv]; simp) (by rw [<- e, hbv, h5])
     ·omega
  intro i j hi hj hij hbi
  have hi2 : i ≠ id := fun e => hi (by rw [e]; exact hHi)
  have hj2 : j ≠ id := fun e => hj (by rw [e]; exact hHi)
  by_cases h1 : i = s.nx
  ·subst h1
   have hjn : j ≠ s.nx := fun e => hij e.symm
   rw [hHn.2] at hbi ⊢
   rw [(hHo j hjn hj2).1] at hj
   rw [(hHo j hjn hj2).2]
   exact key j hjn hj2 hj hbi
  ·rw [(hHo i h1 hi2).1] at hi
   rw [(hHo i h1 hi2).2] at hbi ⊢
   by_cases h2 : j = s.nx
   ·subst h2
    rw [hHn.2]
    exact fun e => key i h1 hi2 hi (by rw [<- e]; exact hbi) e.symm
   ·rw [(hHo j h2 hj2).1] at hj
    rw [(hHo j h2 hj2).2]
    exact h.apart i j hi hj hij hbi
set_option maxHeartbeats 2000000 in
theorem zw1 {H : HM} {nx id n i j : Nat} {cs : List D} (hid : H id = some (.row 27 n cs)) (hij : i < j) (hj : j <= n) :
  AC prog 182 [.osl id n, .int .i64 i, .int .i64 j] H nx fun r H' nx' => r = .osl nx (i + (n - j)) /\ H' = z12 (z12 H id none) nx (some (.row 27 (i + (n - j)) (cs.take (i * 8) ++ cs.drop (j * 8)))) /\ nx' = nx + 1 := by
 refine ⟨⟨_, func182, by kernel_rfl, by kernel_rfl⟩, fun s w vs h1 h2 h h4 => ?_⟩
 subst h1; subst h2
 simp only [relAll] at h4
 obtain ⟨v, r1, rfl, hv, v2, r2, rfl, hv2, v3, r3, rfl, hv3, rfl⟩ := h4
 simp only [rel] at hv hv2 hv3
 subst hv2; subst hv3
 obtain ⟨hidn, _, hlive⟩ := hv
 have hv := (hlive _ _ _ hid).2 rfl
 subst hv
 obtain ⟨xs, ho, hrv, hov, _, _⟩ := z4k h hid
 rw [z2s] at ho
 refine (zso (w := w) (v := s.κ id) (n := n) (i := i) (j := j) (xs := xs) hij hj ho hov).mono ?_
 rintro e w' ⟨v', rfl, hown, hg, hbl⟩
 obtain ⟨g1, g2⟩ := move_obj (w' := w') h id (.row 27 (i + (n - j)) (cs.take (i * 8) ++ cs.drop (j * 8))) v' hid hg.os hg.tape hg.output hg.size
  (fun k O hne => hg.block k O (by rw [z7y ho]; exact hne))
  (fun b hb => .inl (by rw [<- hbl]; exact hb))
  (fun hl => ⟨xs.take (i * 8) ++ xs.drop (j * 8), by rw [z2s]; exact hown, relAll.later hl _ _ (z1n (z4q _ hrv) (z7j _ hrv)), z3t (zap hov _) (zdk hov _)⟩)
 refine ⟨v', .osl s.nx (i + (n - j)), mvS s id v' (.row 27 (i + (n - j)) (cs.take (i * 8) ++ cs.drop (j * 8))), rfl, ⟨rfl, rfl, rfl⟩, g1, g2, ?_⟩
 simp only [rel]
 obtain ⟨a2, c2, hvs⟩ := za6 hown
 refine ⟨Nat.lt_succ_self _, ⟨a2, c2, hvs⟩, fun e2 k2 cs2 hH => ?_⟩
 simp only [mvS, z12, if_true, Option.some.injEq, HObj.row.injEq] at hH
 obtain ⟨_, rfl, _⟩ := hH
 exact ⟨Nat.le_refl _, fun _ => by simp [mvS]⟩
end
section
open Abs Facts Tr
attribute [local irreducible] awp
theorem zxf (l : List T) (hl : l.length <= 1000000) (H : HM) (nx : Nat) : AC prog 62 [z0q l] H nx fun r H' nx' => r = .osl nx l.length /\ H' = z12 H nx (some (zhz l)) /\ nx' = nx + 1 := by
 refine AC.split (pre := []) (post := []) (sz := 8) (els := l.map z0g) (fun he => ?_) ?_
 ·have hl0 : l = [] := by simpa using he
  subst hl0
  have hp : PC prog 62 [.nil] .nil := by
   refine z14 2 rfl rfl (z0z [] func62 rfl (by decide +kernel) rfl ?_)
   show awp _ _ (Code.seq _ _) _ _
   repeat' (first | refine nxt ?_ | ((refine zqh fun K J => ?_); (simp (disch := omega) only [go_sem, Nat.reduceBEq, ↓reduceIte])) | (refine zqd _ rfl ?_ ?_ <;> intro hc <;> (first | (cases hc; done) | ((try simp only [] at hc); (try omega)))) | refine zqu (by simp only [go_sem]; rfl) rfl ?_ | (refine J _ ?_; clear J K))
   exact z08 rfl (Le.refl _)
  exact zno 27 (hp.ac ⟨rfl, rfl, rfl, rfl⟩)
 ·have ho : OC prog 62 [.rsl true 8 (l.map z0g)] [zhz l] (.osl 0 l.length) := by
   refine z91 (by simp only [pureD.pureL, pureD, z0r (f := z0g) z01 l, Bool.and_self]) rfl (fun o ho => by simp at ho; subst ho; exact z1t z04 _) (z0z [5] func62 rfl (by decide +kernel) rfl ?_)
   show awp _ _ (Code.seq _ _) _ _
   repeat' (first | refine nxt ?_ | ((refine zqh fun K J => ?_); (simp (disch := omega) only [go_sem, Nat.reduceBEq, ↓reduceIte, reduceCtorEq, Nat.reduceAdd, Nat.reduceMul, z2q])) | (refine zqd _ rfl ?_ ?_ <;> intro hc <;> (first | (cases hc; done) | ((try simp only [] at hc); (try omega)))) | refine zqu (by simp only [go_sem]; rfl) rfl ?_ | (refine J _ ?_; clear J K))
   refine ⟨fun _ => 0, fun i j hi hj _ => by simp at hi hj; omega, ?_, fun j hj => ?_⟩
   ·(simp (disch := omega) only [go_sem, Nat.reduceBEq, renD])
   ·obtain rfl : j = 0 := by simp at hj; omega
    (simp (disch := omega) only [go_sem, zhz])
    try rfl
  exact ho.ac ⟨by simp [renD], rfl, rfl⟩
theorem z8q (l : List T) (hl : l.length <= 1000000) : OC prog 62 [z0q l] [zhz l] (.osl 0 l.length) :=
 ⟨by simp only [pureD.pureL, z3l, Bool.and_self], rfl, fun o ho => by simp at ho; subst ho; exact z1t z04 _, fun H nx => (zxf l hl H nx).mono fun r H' nx' ⟨h1, h2, h3⟩ => ⟨by rw [h1]; rfl, h2, h3⟩⟩
theorem zms (l : List T) {i : Nat} (h : i < l.length) : ((l.flatMap z0a).drop (i * 8)).take 8 = z0a l[i] := zhr z0c h
theorem ziu (l : List T) {i : Nat} (h : i < l.length) : z17 (l.flatMap z0a) (i * 8) (z0a l[i]) = l.flatMap z0a := by
 rw [z6d z0c h, List.set_getElem_self]
theorem zgx (l : List T) : (l.flatMap z0a).length = l.length * 8 := z43 z0c l
theorem ze9 : ∀ t : T, szB t = true -> PC prog 132 [z0g t] (z0g t) := by
 refine z4x fun t ih hs => ?_
 obtain ⟨h0, h1, g1, h2, g2, h3, h4⟩ := (z2f t).1 hs
 have c1 := z8p t.head h1
 have c2 := z8p t.words h2
 have c3 := z8q t.kids h3
 refine z14 4 (by simp only [pureD.pureL, z01, Bool.and_self]) (z01 _) (z0z [8000000, 3000006, 4000007, 3000009, 4000010, 3000012, 4000013, 3000026, 3000028, 5000029] func132 rfl (by decide +kernel) rfl ?_)
 show awp _ _ (Code.seq _ _) _ _
 rw [show Tryz.f132.results.toList = [.cell 2 27] from rfl]
 rw [z0g, z0k]
 repeat' (first | refine nxt ?_ | ((first | refine zqh fun K J => ?_ | refine zqe (by decide +kernel) fun K J => ?_ | refine z7v (c1) rfl rfl rfl ?_ | refine z7v (c2) rfl rfl rfl ?_ | refine z7v (c3) rfl rfl rfl ?_); (simp (disch := omega) only [go_sem, Nat.reduceBEq, Nat.reduceEqDiff, ↓reduceIte, reduceCtorEq, Nat.reduceAdd, Nat.reduceLeDiff, Nat.reduceLT, zmr, zhz, List.set_cons_succ, List.set_cons_zero])) | (refine J _ ?_; clear J K))
 (refine z3c (fun U st => ∃ (i : _), U = t.kids.length - i /\ st.t 1 = .ptr 0 0 /\ st.t 2 = .ptr 1 0 /\ st.t 18 = .osl 4 t.kids.length /\ st.t 19 = .int .i64 t.kids.length /\ st.t 20 = .int .i64 i /\ st.H 0 = some (.box 27 (z83 t 2 3 4)) /\ st.H 1 = some (.box 27 z67) /\ st.H 2 = some (.row 50 t.head.length (t.head.flatMap z10)) /\ st.H 3 = some (.row 50 t.words.length (t.words.flatMap z10)) /\ st.H 4 = some (.row 27 t.kids.length (t.kids.flatMap z0a)) /\ (i <= t.kids.length) /\ (5 <= st.nx)) ?_ ?_); rotate_left; (rintro U st ⟨i, rfl, q1, q2, q18, q19, q20, qH0, qH1, qH2, qH3, qH4, qp0, qp1⟩); rotate_left
 ·(refine ⟨_, 0, rfl, ?_⟩); (simp (disch := omega) only [go_sem, Nat.reduceBEq, Nat.reduceLeDiff, and_self, Int.natCast_zero, z83, z67])
 by_cases hi : i < t.kids.length
 ·have hin := ih t.kids[i] (List.getElem_mem hi) (h4 _ (List.getElem_mem hi))
  have hld := zms t.kids hi
  have hst := ziu t.kids hi
  have hln := zgx t.kids
  repeat' (first | ((first | refine zqh fun K J => ?_ | refine zqr fun K J => ?_ | refine zqq (by decide +kernel) fun K J => ?_ | refine zqt (hin) ?_); (simp (disch := omega) only [go_sem, Nat.reduceBEq, Nat.reduceEqDiff, ↓reduceIte, reduceCtorEq, Nat.reduceAdd, Nat.reduceLeDiff, q1, q18, q19, q20, qH0, qH4, hld, hst, hln, z83])) | (refine zqd _ rfl ?_ ?_ <;> intro hc <;> (((try simp only [z07] at hc); (try omega)))) | refine nxt ?_ | (refine J _ ?_; clear J K))
  (refine Exists.intro _ (And.intro ?_ ⟨i + 1, rfl, ?_⟩)); rotate_left; (simp (disch := omega) only [go_sem, Nat.reduceBEq, Nat.reduceLeDiff, q1, q2, q18, q19, q20, qH0, qH1, qH2, qH3, qH4, true_and, Int.natCast_add, Int.natCast_one]); rotate_left
  all_goals omega
 ·repeat' (first | ((refine zqh fun K J => ?_); (simp (disch := omega) only [go_sem, Nat.reduceBEq, ↓reduceIte, Nat.reduceAdd, Nat.reduceLeDiff, q1, q2, q19, q20, qH0, qH1, z83, z67, List.set_cons_succ, List.set_cons_zero])) | (refine zqd _ rfl ?_ ?_ <;> intro hc <;> (((try simp only [z07] at hc); (try omega)))) | refine nxt ?_ | refine zqz ?_ | refine zqu (by (simp (disch := omega) only [go_sem, Nat.reduceBEq, ↓reduceIte, Nat.reduceAdd, Nat.reduceLeDiff, q2, qH1, z67]); rfl) rfl ?_ | (refine J _ ?_; clear J K))
  refine z3i (z4z (k := 3) ?_ ?_)
  ·simp [pureD.pureL, pureD]
  refine z00 (z02 2 rfl) (z00 (z02 2 rfl) (z00 (z02 2 rfl) (z00 (z02 2 rfl) (z00 (z02 2 rfl) (z00 ?_ (z00 ?_ (z00 ?_ z0d)))))))
  ·refine z16 (f := z10) (l := t.head) 1 rfl ?_ z5y z89 (fun _ => rfl) (fun _ => rfl)
   (simp (disch := omega) only [go_sem, Nat.reduceBEq, qH2])
  ·refine z16 (f := z10) (l := t.words) 1 rfl ?_ z5y z89 (fun _ => rfl) (fun _ => rfl)
   (simp (disch := omega) only [go_sem, Nat.reduceBEq, qH3])
  ·refine z16 (f := z0a) (l := t.kids) 1 rfl ?_ z0j z2s z0c z04
   (simp (disch := omega) only [go_sem, Nat.reduceBEq, qH4])
namespace Abs
theorem zq6 {P : Program} {own : List Nat} {n : FuncId} {args cap : List D} {g : List Oper -> (St -> Prop) -> St -> Prop} {rest : List Oper} {K : St -> Prop} {st : St} {dst : Option Nat} {r : D} {H : HM} {nx : Nat}
  (h : AC P n (args ++ cap) st.H st.nx fun r' H' nx' => r' = r /\ H' = H /\ nx' = nx) (h0 : z0x 5000000 own dst = false) (hm : z0x 4000000 own dst = true) (hs : z9u st H nx) (O : g rest K ((st.withH H nx).put dst r)) (ht : tcM own dst = none := by rfl) : zoq P own (.fn n cap) args g rest K st dst :=
 .inr (.inr ⟨h0, hm, r, H, nx, h, .inl ⟨ht, hs⟩, O⟩)
theorem zvx {P : Program} {own : List Nat} {c : Code} {Q : Exit -> St -> Prop} {st : St} (I : St -> Prop) (h0 : I st) (h : ∀ st, I st -> awp P own c Q st) : awp P own c Q st := h st h0
theorem zq7 {P : Program} {st : St} {b j : Nat} {e : TypeId} {cs : List D} {d : D} (hb : st.H b = some (.box e cs)) (V : cs = [d] \/ d = .agg cs) (hp : pureD d = true) (hj : st.t j = .ptr b 0) :
  SealTo P st ((st.withH (z12 st.H b none) st.nx).put (some j) (.rptr d)) := by
 intro N s a w hf
 have hHb : s.H b = some (.box e cs) := by rw [hf.H]; exact hb
 obtain ⟨k, vs, O, _, hr, h1, hc⟩ := zdm hf.heap hHb
 obtain ⟨g1, g2⟩ := zbw hf.heap (id := b) (by rw [hHb]; simp)
 refine ⟨s.shut1 w b, ⟨?_, hf.nx, hf.size, hf.defers, fun i => ?_, g2⟩, g1⟩
 ·show z12 s.H b none = _
  rw [hf.H]; rfl
 ·by_cases hij : i = j
  ·subst hij
   have ht := hf.tmps i
   rw [hj] at ht
   simp only [rel] at ht
   obtain ⟨_, _, h3⟩ := ht
   obtain ⟨k', hk', hv⟩ := h3 _ _ hHb
   rw [O] at hk'
   simp only [Value.pointer.injEq, Option.some.injEq, Addr.mk.injEq, and_true] at hk'
   subst hk'
   show rel _ (updT st.t i (.rptr d) i) _
   rw [show updT st.t i (.rptr d) i = .rptr d from if_pos rfl]
   simp only [rel]
   have hm : ∀ (q : Nat) c, vs[q]? = some c -> (s.shut1 w b).m ⟨k, q, none⟩ = some c := fun q c hq => by
    unfold RS.shut1
    simp only
    rw [if_pos (by rw [O]; rfl)]
    exact hc q c hq
   rcases V with V | V
   ·subst V
    simp only [relAll] at hr
    obtain ⟨v, r, rfl, hrv, rfl⟩ := hr
    refine ⟨_, v, hv, rel.later g1.later _ _ hrv, fun q c hq => ?_⟩
    rw [z2g (h1 v (by simp))] at hq
    rw [z1b, Nat.zero_add]
    exact hm q c (by simpa using hq)
   ·subst V
    refine ⟨_, .agg vs.toArray, hv, ?_, fun q c hq => ?_⟩
    ·simp only [rel]
     exact ⟨vs, rfl, relAll.later g1.later _ _ hr, h1⟩
    ·rw [z1b, Nat.zero_add]
     exact hm q c (by simpa [Value.cells] using hq)
  ·show rel _ (updT st.t j (.rptr d) i) _
   rw [show updT st.t j (.rptr d) i = st.t i from if_neg hij]
   exact rel.later g1.later _ _ (hf.tmps i)
theorem zsx {st : St} {id : Nat} {o o' : HObj} (h0 : st.H id = some o) (hid : id < st.nx) (hb : ∀ e cs, o ≠ .box e cs) (hb' : ∀ e cs, o' ≠ .box e cs) : z9u st (z12 (z12 st.H id none) st.nx (some o')) (st.nx + 1) := by
 have h := zim st (zgq st hb') (id0 := id) (o := o) (by unfold z12; rw [if_neg (by omega)]; exact h0) hb
 have e : z12 (z12 st.H st.nx (some o')) id none = z12 (z12 st.H id none) st.nx (some o') := by
  funext j
  unfold z12
  by_cases h1 : j = id
  ·rw [if_pos h1, if_neg (by omega), if_pos h1]
  ·rw [if_neg h1]
   by_cases h2 : j = st.nx
   ·rw [if_pos h2, if_pos h2]
   ·rw [if_neg h2, if_neg h2, if_neg h1]
 rw [e] at h; exact h
def z13 (t : T) : List D := [.int .i64 t.id.act, .int .i64 t.id.item, .int .i64 t.id.n, .int .i64 t.kind, .str t.label, z0n t.head, z0n t.words, z0q t.kids]
end Abs
theorem z5p {P : Program} {H : HM} (k : Nat) {t : T} {d : D} (V : z2p P H (k + 1) d = some (z0q t.kids)) (hp : pureD d = false) :
  z2p P H (k + 2) (.agg [.int .i64 t.id.act, .int .i64 t.id.item, .int .i64 t.id.n, .int .i64 t.kind, .str t.label, z0n t.head, z0n t.words, d]) = some (z0g t) := by
 rw [z0g, z0k]
 refine z4z (k + 1) ?_ (z00 (z02 k rfl) (z00 (z02 k rfl) (z00 (z02 k rfl) (z00 (z02 k rfl) (z00 (z02 k rfl) (z00 (z02 k (z0h _)) (z00 (z02 k (z0h _)) (z00 V z0d))))))))
 simp only [pureD.pureL, hp, Bool.and_false, Bool.false_and]
theorem pc_at (id : Idv) (f : T -> T) {g : FuncId} {cap : List D} (hc : pureD.pureL cap = true) : ∀ t : T, szB t = true -> (∀ x ∈ z0l t, x.id = id -> PC prog g (z0g x :: cap) (z0g (f x))) ->
  PC prog 170 [z0g t, z1a id, .fn g cap] (.tup [z0g (atR id f t).1, .bool (atR id f t).2]) := by
 refine z4x fun t ih hs hg => ?_
 obtain ⟨h0, h1, g1, h2, g2, h3, h4⟩ := (z2f t).1 hs
 have ct := z8q t.kids h3
 refine z14 5 (by simp only [pureD.pureL, z01, pureD, hc, Bool.and_self]; rfl) (by simp only [pureD, pureD.pureL, z01, Bool.and_self]) (z0z [] func170 rfl (by decide +kernel) rfl ?_)
 show awp _ _ (Code.seq _ _) _ _
 rw [show Tryz.f170.results.toList = [.cell 6 27, .tmp 7] from rfl]
 rw [show z0g t = .agg _ from by rw [z0g, z0k]]
 by_cases hid : t.id = id
 ·have hgt := hg t (z1z t) hid
  rw [show z0g t = .agg _ from by rw [z0g, z0k]] at hgt
  rw [zrk hid]
  have hidd : decide (t.id = id) = true := decide_eq_true hid
  repeat' (first | refine nxt ?_ | ((first | refine zqh fun K J => ?_ | refine zqs (hgt) ?_); (simp (disch := omega) only [go_sem, Nat.reduceBEq, ↓reduceIte, reduceCtorEq, Nat.reduceAdd, Nat.reduceLeDiff, hidd])) | (refine zqd _ rfl ?_ ?_ <;> intro hc <;> (first | (cases hc; done) | ((try simp only [] at hc); (try omega)))) | refine zqu (by (simp (disch := omega) only [go_sem, Nat.reduceBEq, ↓reduceIte, Nat.reduceLeDiff]); rfl) rfl ?_ | (refine J _ ?_; clear J K))
  exact z08 (by simp only [pureD, pureD.pureL, z04, Bool.and_self]) (Le.refl _)
 ·have hidd : decide (t.id = id) = false := decide_eq_false hid
  repeat' (first | refine nxt ?_ | ((refine zqh fun K J => ?_); (simp (disch := omega) only [go_sem, Nat.reduceBEq, ↓reduceIte, reduceCtorEq, Nat.reduceAdd, Nat.reduceLeDiff, hidd])) | (refine zqd _ rfl ?_ ?_ <;> intro hc <;> (first | (cases hc; done) | ((try simp only [] at hc); (try omega)))) | (refine J _ ?_; clear J K))
  (refine z3c (fun U st => ∃ (i : _), U = t.kids.length - i /\ st.t 2 = .fn g cap /\ st.t 3 = .ptr 0 0 /\ st.t 4 = .ptr 1 0 /\ st.t 6 = .ptr 2 0 /\ st.t 20 = z0q t.kids /\ st.t 21 = .int .i64 t.kids.length /\ st.t 22 = .int .i64 i /\ st.H 0 = some (.box 27 (z13 t)) /\ st.H 1 = some (.box 23 (z0b id)) /\ st.H 2 = some (.box 27 [.int .i64 0, .int .i64 0, .int .i64 0, .int .i64 0, .str ByteArray.empty, .nil, .nil, .nil]) /\ (i <= t.kids.length) /\ (3 <= st.nx) /\ (∀ j, (hj : j < i) -> (h : j < t.kids.length) -> (atR id f t.kids[j]).2 = false)) ?_ ?_); rotate_left; (rintro U st ⟨i, rfl, q2, q3, q4, q6, q20, q21, q22, qH0, qH1, qH2, qp0, qp1, qp2⟩); rotate_left
  ·(refine ⟨_, 0, rfl, ?_⟩); (simp (disch := omega) only [go_sem, Nat.reduceBEq, Nat.reduceLeDiff, true_and, Int.natCast_zero, z13, z0b, z0q])
   intro j hj; omega
  by_cases hi : i < t.kids.length
  ·have hin := ih t.kids[i] (List.getElem_mem hi) (h4 _ (List.getElem_mem hi)) (fun x hx => hg x (z2n (List.getElem_mem hi) hx))
   have hst : z17 (t.kids.flatMap z0a) (i * 8) (z0a (atR id f t.kids[i]).1) = (t.kids.set i (atR id f t.kids[i]).1).flatMap z0a := z6d z0c hi
   have hln := zgx t.kids
   by_cases hf : (atR id f t.kids[i]).2 = true
   ·rw [hf] at hin
    repeat' (first | ((first | refine zqh fun K J => ?_ | refine zqs (hin) ?_ | refine z6n (ct) ?_); (simp (disch := omega) only [go_sem, Nat.reduceBEq, Nat.reduceBeqDiff, ↓reduceIte, reduceCtorEq, Nat.reduceAdd, Nat.reduceLeDiff, Nat.reduceLT, q2, q3, q4, q6, q20, q21, q22, qH0, qH1, qH2, z13, z0q, z0b, zhz, hst, hln, List.set_cons_succ, List.set_cons_zero])) | ((first | refine zqd _ rfl (fun hc => ?_) (fun hc => ?_) | refine zqm _ rfl (fun hc => ?_) (fun hc => ?_)) <;> (first | (cases hc; done) | ((try simp only [z07] at hc); (try omega)))) | refine nxt ?_ | refine zqu (by (simp (disch := omega) only [go_sem, Nat.reduceBEq, Nat.reduceBeqDiff, ↓reduceIte, Nat.reduceAdd, Nat.reduceLeDiff, q6, qH2]); rfl) rfl ?_ | (refine J _ ?_; clear J K))
    rw [zxp hid hi qp2 hf]
    refine z3i (zlj 4 (by simp only [pureD.pureL, pureD, Bool.and_false, Bool.false_and]) (z00 (z5p 2 (t := t.setKids (t.kids.set i (atR id f t.kids[i]).1)) (z16 (f := z0a) (l := t.kids.set i (atR id f t.kids[i]).1) 1 (by simp) ?_ z0j z2s z0c z04) rfl) (z00 (z02 3 rfl) z0d)))
    (simp (disch := omega) only [go_sem])
   ·rw [Bool.not_eq_true] at hf
    rw [hf] at hin
    repeat' (first | ((first | refine zqh fun K J => ?_ | refine zqr fun K J => ?_ | refine zqs (hin) ?_); (simp (disch := omega) only [go_sem, Nat.reduceBEq, ↓reduceIte, reduceCtorEq, Nat.reduceAdd, Nat.reduceLeDiff, q2, q4, q20, q21, q22, qH1, z0q, z0b])) | ((first | refine zqd _ rfl (fun hc => ?_) (fun hc => ?_) | refine zqm _ rfl (fun hc => ?_) (fun hc => ?_)) <;> (first | (cases hc; done) | ((try simp only [z07] at hc); (try omega)))) | refine nxt ?_ | (refine J _ ?_; clear J K))
    (refine Exists.intro _ (And.intro ?_ ⟨i + 1, rfl, ?_⟩)); rotate_left; (simp (disch := omega) only [go_sem, Nat.reduceBEq, Nat.reduceLeDiff, q2, q3, q4, q6, q20, q21, q22, qH0, qH1, qH2, true_and, Int.natCast_add, Int.natCast_one, z13, z0q, z0b]); rotate_left
    ·omega
    ·refine ⟨by omega, by omega, fun j hj h => ?_⟩
     by_cases e : j = i
     ·subst e; exact hf
     ·exact qp2 j (by omega) h
  ·repeat' (first | ((refine zqh fun K J => ?_); (simp (disch := omega) only [go_sem, Nat.reduceBEq, ↓reduceIte, Nat.reduceAdd, Nat.reduceLeDiff, q3, q6, q21, q22, qH0, qH2, z13, z0q])) | (refine zqd _ rfl ?_ ?_ <;> intro hc <;> (((try simp only [z07] at hc); (try omega)))) | refine nxt ?_ | refine zqz ?_ | refine zqu (by (simp (disch := omega) only [go_sem, Nat.reduceBEq, ↓reduceIte, Nat.reduceAdd, Nat.reduceLeDiff, q6, qH2]); rfl) rfl ?_ | (refine J _ ?_; clear J K))
   rw [zrl hid fun j h => qp2 j (by omega) h, z0g, z0k]
   exact z08 (by simp only [pureD, pureD.pureL, z0h, ze7, Bool.and_self]) (Le.refl _)
theorem zg3 (t : T) (hs : szB t = true) (id : Idv) (f : T -> T) {g : FuncId} {cap : List D} (hc : pureD.pureL cap = true) (hg : ∀ x ∈ z0l t, x.id = id -> PC prog g (z0g x :: cap) (z0g (f x))) :
  PC prog 120 [z0g t, z1a id, .fn g cap] (z0g (atR id f t).1) := by
 have c1 := ze9 t hs
 have c2 := pc_at id f hc t hs hg
 refine z14 1 (by simp only [pureD.pureL, z01, pureD, hc, Bool.and_self]; rfl) (z01 _) (z0z [3000010, 5000011, 3000012, 5000014] func120 rfl (by decide +kernel) rfl ?_)
 show awp _ _ (Code.seq _ _) _ _
 rw [show Tryz.f120.results.toList = [.cell 6 27] from rfl]
 repeat' (first | ((first | refine zqh fun K J => ?_ | refine zqe (by decide +kernel) fun K J => ?_ | refine zqt (c1) ?_ | refine zqt (c2) ?_); (simp (disch := omega) only [go_sem, Nat.reduceBEq, Nat.reduceEqDiff, ↓reduceIte, Nat.reduceAdd, Nat.reduceLeDiff])) | refine nxt ?_ | refine zqu (by (simp (disch := omega) only [go_sem, Nat.reduceBEq, ↓reduceIte, Nat.reduceLeDiff]); rfl) rfl ?_ | (refine J _ ?_; clear J K))
 exact z08 (z01 _) (Le.refl _)
theorem ins_flat (l : List T) (i : Nat) (x : T) : (l.flatMap z0a).take (i * 8) ++ z0a x ++ (l.flatMap z0a).drop (i * 8) = (l.take i ++ x :: l.drop i).flatMap z0a := by
 have h1 : (l.flatMap z0a).take (i * 8) = (l.take i).flatMap z0a := by
  by_cases hi : i <= l.length
  ·have e : l.flatMap z0a = (l.take i).flatMap z0a ++ (l.drop i).flatMap z0a := by rw [<- List.flatMap_append, List.take_append_drop]
   rw [e, List.take_append_of_le_length (by rw [z43 z0c, List.length_take]; omega), List.take_of_length_le (by rw [z43 z0c, List.length_take]; omega)]
  ·rw [List.take_of_length_le (by rw [z43 z0c]; omega), List.take_of_length_le (by omega)]
 rw [h1, zdp z0c, List.flatMap_append, List.flatMap_cons, List.append_assoc]
theorem del_flat (l : List T) (i : Nat) : (l.flatMap z0a).take (i * 8) ++ (l.flatMap z0a).drop ((i + 1) * 8) = (l.eraseIdx i).flatMap z0a := by
 have h1 : (l.flatMap z0a).take (i * 8) = (l.take i).flatMap z0a := by
  by_cases hi : i <= l.length
  ·have e : l.flatMap z0a = (l.take i).flatMap z0a ++ (l.drop i).flatMap z0a := by rw [<- List.flatMap_append, List.take_append_drop]
   rw [e, List.take_append_of_le_length (by rw [z43 z0c, List.length_take]; omega), List.take_of_length_le (by rw [z43 z0c, List.length_take]; omega)]
  ·rw [List.take_of_length_le (by rw [z43 z0c]; omega), List.take_of_length_le (by omega)]
 rw [h1, zdp z0c, <- List.flatMap_append, List.eraseIdx_eq_take_drop_succ]
theorem zvy (i : Nat) (x : T) (hx : szB x = true) (q : T) (hq : szB q = true) (hi : i <= q.kids.length) : PC prog 179 [z0g q, .rptr (.int .i64 i), .rptr (z0g x)] (z0g (z7r i x q)) := by
 obtain ⟨h0, h1, g1, h2, g2, h3, h4⟩ := (z2f q).1 hq
 have c1 := ze9 x hx
 have ct := z8q q.kids h3
 refine z14 5 (by simp only [pureD.pureL, z01, pureD, Bool.and_self]) (z01 _) (z0z [3000006, 4000007, 3000008, 3000009, 5000010, 4000012] func179 rfl (by decide +kernel) rfl ?_)
 show awp _ _ (Code.seq _ _) _ _
 rw [show Tryz.f179.results.toList = [.cell 4 27] from rfl]
 rw [show z0g q = .agg _ from by rw [z0g, z0k]]
 repeat' (first | ((first | refine zqh fun K J => ?_ | refine zqe (by decide +kernel) fun K J => ?_ | refine zqt (c1) ?_ | refine z7v (ct) rfl rfl rfl ?_); (simp (disch := omega) only [go_sem, Nat.reduceBEq, Nat.reduceEqDiff, ↓reduceIte, reduceCtorEq, Nat.reduceAdd, Nat.reduceMul, Nat.reduceLeDiff, zhz])) | (refine J _ ?_; clear J K))
 refine zq6 (zw0 (n := q.kids.length) (i := i) (cs := q.kids.flatMap z0a) (us := z0a x) ?_ hi (by simp) ?_ (by simp; omega)) rfl rfl (zmb _ (o := .row 27 q.kids.length (q.kids.flatMap z0a)) ?_ (by intro e cs h; cases h) (by intro e cs h; cases h)) ?_
 ·(simp (disch := omega) only [go_sem, Nat.reduceBEq])
 ·simp only [z1w, z4u, z0c, if_true, List.append_nil]
 ·(simp (disch := omega) only [go_sem, Nat.reduceBEq])
 rw [ins_flat]
 (try (simp (disch := omega) only [go_sem, Nat.reduceBEq, Nat.reduceEqDiff, ↓reduceIte, reduceCtorEq, Nat.reduceAdd, Nat.reduceLeDiff, Nat.reduceLT, List.set_cons_succ, List.set_cons_zero])); repeat' (first | ((refine zqh fun K J => ?_); (simp (disch := omega) only [go_sem, Nat.reduceBEq, ↓reduceIte, Nat.reduceAdd, Nat.reduceLeDiff, List.set_cons_succ, List.set_cons_zero])) | refine nxt ?_ | refine zqu (by (simp (disch := omega) only [go_sem, Nat.reduceBEq, ↓reduceIte, Nat.reduceAdd, Nat.reduceLeDiff]); rfl) rfl ?_ | (refine J _ ?_; clear J K))
 refine z3i (z5p 3 (t := z7r i x q) (z16 (f := z0a) (l := q.kids.take i ++ x :: q.kids.drop i) 2 ?_ ?_ z0j z2s z0c z04) rfl)
 ·simp; omega
 ·(simp (disch := omega) only [go_sem, Nat.reduceBEq])
theorem zo0 (i : Nat) (q : T) (hq : szB q = true) (hi : i < q.kids.length) : PC prog 181 [z0g q, .rptr (.int .i64 i)] (z0g (delK i q)) := by
 obtain ⟨h0, h1, g1, h2, g2, h3, h4⟩ := (z2f q).1 hq
 have ct := z8q q.kids h3
 have cd := fun (H : HM) (nx : Nat) (hid : H 2 = some (.row 27 q.kids.length (q.kids.flatMap z0a))) => zw1 (nx := nx) (i := i) (j := i + 1) hid (by omega) (by omega)
 rw [del_flat] at cd
 simp only [Int.natCast_add, Int.natCast_one] at cd
 refine z14 5 (by simp only [pureD.pureL, z01, pureD, Bool.and_self]) (z01 _) (z0z [3000005, 4000006, 3000007, 3000008, 4000010] func181 rfl (by decide +kernel) rfl ?_)
 show awp _ _ (Code.seq _ _) _ _
 rw [show Tryz.f181.results.toList = [.cell 3 27] from rfl]
 rw [show z0g q = .agg _ from by rw [z0g, z0k]]
 repeat' (first | ((first | refine zqh fun K J => ?_ | refine zqe (by decide +kernel) fun K J => ?_ | refine z7v (ct) rfl rfl rfl ?_); (simp (disch := omega) only [go_sem, Nat.reduceBEq, Nat.reduceEqDiff, ↓reduceIte, reduceCtorEq, Nat.reduceAdd, zhz])) | (refine J _ ?_; clear J K))
 refine zq6 (cd _ _ ?_) rfl rfl (zsx (o := .row 27 q.kids.length (q.kids.flatMap z0a)) ?_ ?_ (by intro e cs h; cases h) (by intro e cs h; cases h)) ?_
 ·(simp (disch := omega) only [go_sem, Nat.reduceBEq])
 ·(simp (disch := omega) only [go_sem, Nat.reduceBEq])
 ·(simp (disch := omega) only [go_sem, Nat.reduceLT])
 (try (simp (disch := omega) only [go_sem, Nat.reduceBEq, Nat.reduceEqDiff, ↓reduceIte, reduceCtorEq, Nat.reduceAdd, Nat.reduceLeDiff, Nat.reduceLT, List.set_cons_succ, List.set_cons_zero])); repeat' (first | ((refine zqh fun K J => ?_); (simp (disch := omega) only [go_sem, Nat.reduceBEq, ↓reduceIte, Nat.reduceAdd, Nat.reduceLeDiff, List.set_cons_succ, List.set_cons_zero])) | refine nxt ?_ | refine zqu (by (simp (disch := omega) only [go_sem, Nat.reduceBEq, ↓reduceIte, Nat.reduceAdd, Nat.reduceLeDiff]); rfl) rfl ?_ | (refine J _ ?_; clear J K))
 refine z3i (z5p 3 (t := delK i q) (z16 (f := z0a) (l := q.kids.eraseIdx i) 2 ?_ ?_ z0j z2s z0c z04) rfl)
 ·rw [List.length_eraseIdx_of_lt hi]; omega
 ·(simp (disch := omega) only [go_sem, Nat.reduceBEq])
theorem pc_put (i : Int) (x : T) : PC prog 126 [.int .i64 i, z0g x] (.fn 179 [.rptr (.int .i64 i), .rptr (z0g x)]) := by
 refine z14 4 (by simp only [pureD.pureL, z01, pureD, Bool.and_self]) (by simp only [pureD.pureL, z01, pureD, Bool.and_self]) (z0z [] func126 rfl (by decide +kernel) rfl ?_)
 show awp _ _ (Code.seq _ _) _ _
 repeat' (first | ((refine zqh fun K J => ?_); (simp (disch := omega) only [go_sem, Nat.reduceBEq, Nat.reduceAdd])) | refine nxt ?_ | refine zqu (by simp only [go_sem]; rfl) rfl ?_ | (refine J _ ?_; clear J K))
 refine z3i (zcc 3 rfl (z00 (z1d (e := 3) 2 ?_ z40 (z02 1 rfl)) (z00 (z05 (e := 27) 1 ?_ z0j (z04 x)) z0d)))
 ·(simp (disch := omega) only [go_sem, Nat.reduceBEq])
 ·(simp (disch := omega) only [go_sem, Nat.reduceBEq])
theorem zsy (t : T) (hs : szB t = true) (V : depT t <= 1000000000) (id : Idv) (i : Nat) (hp : (z5a id t).2.1 = i) (hq : ∀ q ∈ z0l t, q.id = (z5a id t).1 -> i < q.kids.length) : PC prog 131 [z0g t, z1a id] (z0g (atR (z5a id t).1 (delK i) t).1) := by
 have c1 := znd t (z8l t hs) V id
 have c2 := zg3 t hs (z5a id t).1 (delK i) (g := 181) (cap := [.rptr (.int .i64 i)]) rfl (fun q hq1 hq2 => zo0 i q (zaw t hs q hq1) (hq q hq1 hq2))
 rw [hp] at c1
 refine z14 1 (by simp only [pureD.pureL, z01]; rfl) (z01 _) (z0z [] func131 rfl (by decide +kernel) rfl ?_)
 show awp _ _ (Code.seq _ _) _ _
 rw [show Tryz.f131.results.toList = [.cell 4 27] from rfl]
 repeat' (first | ((refine z1j (N := 1) rfl fun K J => ?_); (simp (disch := omega) only [go_sem, Nat.reduceBEq, Nat.reduceAdd])) | (refine J _ ?_; clear J K))
 refine z1f fun K J => ?_
 (simp (disch := omega) only [go_sem, Nat.reduceBEq, ↓reduceIte, Nat.reduceAdd, Nat.reduceLeDiff])
 refine zqs c1 ?_
 (simp (disch := omega) only [go_sem, Nat.reduceBEq, ↓reduceIte, Nat.reduceAdd, Nat.reduceLeDiff, Nat.reduceLT])
 refine J _ _ (zq7 (b := 4) (j := 6) (e := 3) (cs := [.int .i64 i]) (d := .int .i64 i) (by (simp (disch := omega) only [go_sem, Nat.reduceBEq])) (.inl rfl) rfl (by (simp (disch := omega) only [go_sem, Nat.reduceBEq]))) ?_
 clear J K
 repeat' (first | ((first | refine zqh fun K J => ?_ | refine zqs (c2) ?_); (simp (disch := omega) only [go_sem, Nat.reduceBEq, ↓reduceIte, Nat.reduceAdd, Nat.reduceLeDiff])) | refine nxt ?_ | refine zqu (by (simp (disch := omega) only [go_sem, Nat.reduceBEq, ↓reduceIte, Nat.reduceLeDiff]); rfl) rfl ?_ | (refine J _ ?_; clear J K))
 exact z08 (z01 _) (Le.refl _)
def z69 (t : T) : List D := [.int .i64 t.id.act, .int .i64 t.id.item, .int .i64 t.id.n, .int .i64 t.kind, .str t.label, z0n t.head, z0n t.words, z0q t.kids]
theorem zj1 (id : Idv) : ∀ t : T, szB t = true -> PC prog 149 [z0g t, z1a id] (z0g (z0o id t)) := by
 refine z4x fun t ih hs => ?_
 obtain ⟨h0, h1, g1, h2, g2, h3, h4⟩ := (z2f t).1 hs
 refine z14 4 (by simp only [pureD.pureL, z01]; rfl) (z01 _) (z0z [7, 3000010, 3000016, 3000020, 3000021, 3000025, 3000028, 3000029] func149 rfl (by decide +kernel) rfl ?_)
 show awp _ _ (Code.seq _ _) _ _
 rw [show Tryz.f149.results.toList = [.cell 4 27] from rfl]
 rw [show z0g t = .agg _ from by rw [z0g, z0k], z56]
 repeat' (first | refine nxt ?_ | ((refine zqh fun K J => ?_); (simp (disch := omega) only [go_sem, Nat.reduceBEq, ↓reduceIte, reduceCtorEq, Nat.reduceAdd, Nat.reduceMul])) | (refine J _ ?_; clear J K))
 (refine z3c (fun U st => ∃ (i : _), U = t.kids.length - i /\ st.t 2 = .ptr 0 0 /\ st.t 3 = .ptr 1 0 /\ st.t 4 = .ptr 2 0 /\ st.t 5 = .osl 3 (((t.kids.take i).filter (z4w id))).length /\ st.t 6 = .int .i64 i /\ st.H 0 = some (.box 27 (z69 t)) /\ st.H 1 = some (.box 23 (z0b id)) /\ st.H 2 = some (.box 27 [.int .i64 0, .int .i64 0, .int .i64 0, .int .i64 0, .str ByteArray.empty, .nil, .nil, .nil]) /\ st.H 3 = some (.row 27 (((t.kids.take i).filter (z4w id))).length ((((t.kids.take i).filter (z4w id)).map (z0o id)).flatMap z0a)) /\ (i <= t.kids.length) /\ (4 <= st.nx)) ?_ ?_); rotate_left; (rintro U st ⟨i, rfl, q2, q3, q4, q5, q6, qH0, qH1, qH2, qH3, qp0, qp1⟩); rotate_left
 ·(refine ⟨_, 0, rfl, ?_⟩); (simp (disch := omega) only [go_sem, Nat.reduceBEq, Nat.reduceLeDiff, true_and, and_true, and_self, Int.natCast_zero, z0b, z69])
  exact ⟨rfl, rfl⟩
 by_cases hi : i < t.kids.length
 ·have hin := ih t.kids[i] (List.getElem_mem hi) (h4 _ (List.getElem_mem hi))
  have htk := List.take_succ_eq_append_getElem hi
  by_cases O : t.kids[i].id = id
  ·have hk2 := zxq O
   have hkd : decide (t.kids[i].id = id) = true := decide_eq_true O
   repeat' (first | refine nxt ?_ | ((first | refine zqh fun K J => ?_ | refine zqe (by decide +kernel) fun K J => ?_ | refine zqr fun K J => ?_); (simp (disch := omega) only [go_sem, Nat.reduceBEq, Nat.reduceEqDiff, ↓reduceIte, reduceCtorEq, Nat.reduceAdd, Nat.reduceLeDiff, q2, q3, q6, qH0, qH1, z0b, z69, z0q, hkd])) | ((first | refine zqd _ rfl (fun hc => ?_) (fun hc => ?_) | refine zqm _ rfl (fun hc => ?_) (fun hc => ?_)) <;> (first | (cases hc; done) | ((try simp only [z07] at hc); (try omega)))) | (refine J _ ?_; clear J K))
   have e : (t.kids.take (i + 1)).filter (z4w id) = (t.kids.take i).filter (z4w id) := by rw [htk, List.filter_append, List.filter_cons, hk2]; simp
   (refine Exists.intro _ (And.intro ?_ ⟨i + 1, rfl, ?_⟩)); rotate_left; (simp (disch := omega) only [go_sem, Nat.reduceBEq, q2, q3, q4, q5, q6, qH0, qH1, qH2, qH3, true_and, Int.natCast_add, Int.natCast_one, e, z0b, z69]); rotate_left
   ·omega
   ·omega
  ·have hk2 := zh0 O
   have hkd : decide (t.kids[i].id = id) = false := decide_eq_false O
   have hfl : ((t.kids.take i).filter (z4w id)).length <= 1000000 := by have := List.length_filter_le (z4w id) (t.kids.take i); rw [List.length_take] at this; omega
   repeat' (first | refine nxt ?_ | ((first | refine zqh fun K J => ?_ | refine zqe (by decide +kernel) fun K J => ?_ | refine zqr fun K J => ?_ | refine zqq (by decide +kernel) fun K J => ?_ | refine zqt (hin) ?_); (simp (disch := omega) only [go_sem, Nat.reduceBEq, Nat.reduceEqDiff, ↓reduceIte, reduceCtorEq, Nat.reduceAdd, Nat.reduceMul, Nat.reduceLeDiff, q2, q3, q5, q6, qH0, qH1, qH3, z0b, z69, z0q, hkd])) | ((first | refine zqd _ rfl (fun hc => ?_) (fun hc => ?_) | refine zqm _ rfl (fun hc => ?_) (fun hc => ?_)) <;> (first | (cases hc; done) | ((try simp only [z07] at hc); (try omega)))) | (refine J _ ?_; clear J K))
   have e : (t.kids.take (i + 1)).filter (z4w id) = (t.kids.take i).filter (z4w id) ++ [t.kids[i]] := by rw [htk, List.filter_append, List.filter_cons, hk2]; simp
   (refine Exists.intro _ (And.intro ?_ ⟨i + 1, rfl, ?_⟩)); rotate_left; (simp (disch := omega) only [go_sem, Nat.reduceBEq, q2, q3, q4, q5, q6, qH0, qH1, qH2, qH3, true_and, Int.natCast_add, Int.natCast_one, List.flatMap_append, List.flatMap_cons, List.flatMap_nil, List.map_append, List.map_cons, List.map_nil, List.append_nil, e, z0b, z69, List.length_append, List.length_cons, List.length_nil]); rotate_left
   ·omega
   ·omega
 ·repeat' (first | refine nxt ?_ | ((refine zqh fun K J => ?_); (simp (disch := omega) only [go_sem, Nat.reduceBEq, ↓reduceIte, reduceCtorEq, Nat.reduceAdd, Nat.reduceLeDiff, Nat.reduceLT, q2, q4, q5, q6, qH0, qH2, z0q, z69, List.set_cons_succ, List.set_cons_zero])) | (refine zqd _ rfl ?_ ?_ <;> intro hc <;> (((try simp only [z07] at hc); (try omega)))) | refine zqz ?_ | refine zqu (by (simp (disch := omega) only [go_sem, Nat.reduceBEq, ↓reduceIte, Nat.reduceAdd, Nat.reduceLeDiff, q4, qH2]); rfl) rfl ?_ | (refine J _ ?_; clear J K))
  have hi2 : i = t.kids.length := by omega
  subst hi2
  rw [List.take_length] at q5 qH3
  refine z3i (z5p 2 (t := t.setKids ((t.kids.filter (z4w id)).map (z0o id))) (z16 (f := z0a) (l := (t.kids.filter (z4w id)).map (z0o id)) 1 ?_ ?_ z0j z2s z0c z04) rfl)
  ·rw [List.length_map, List.take_length]
  ·(simp (disch := omega) only [go_sem, Nat.reduceBEq, qH3])
theorem zrz (id : Idv) (n : Nat) (x : T) : ∀ t : T, szB t = true -> (∀ q ∈ z0l t, q.id = id -> n <= q.kids.length) -> PC prog 148 [z0g t, z1a id, .int .i64 n, z0g x] (z0g (z1g id (z7r n x) t)) := by
 refine z4x fun t ih hs hn => ?_
 obtain ⟨h0, h1, g1, h2, g2, h3, h4⟩ := (z2f t).1 hs
 refine z14 4 (by simp only [pureD.pureL, z01, pureD, Bool.and_self]; rfl) (z01 _) (z0z [22, 3000016, 3000018, 3000025, 3000032, 3000035, 3000036, 3000038] func148 rfl (by decide +kernel) rfl ?_)
 show awp _ _ (Code.seq _ _) _ _
 rw [show Tryz.f148.results.toList = [.cell 8 27] from rfl]
 rw [show z0g t = .agg _ from by rw [z0g, z0k], z84]
 by_cases hid : t.id = id
 ·have hidd : decide (t.id = id) = true := decide_eq_true hid
  rw [if_pos hid]
  have c1 := pc_putR t.kids h3 n (hn t (z1z t) hid) x
  repeat' (first | refine nxt ?_ | ((first | refine zqh fun K J => ?_ | refine zqs (c1) ?_); (simp (disch := omega) only [go_sem, Nat.reduceBEq, ↓reduceIte, reduceCtorEq, Nat.reduceAdd, Nat.reduceLeDiff, Nat.reduceLT, hidd, z0q, List.set_cons_succ, List.set_cons_zero])) | (refine zqd _ rfl ?_ ?_ <;> intro hc <;> (first | (cases hc; done) | ((try simp only [] at hc); (try omega)))) | refine zqu (by (simp (disch := omega) only [go_sem, Nat.reduceBEq, ↓reduceIte, Nat.reduceAdd, Nat.reduceLeDiff]); rfl) rfl ?_ | (refine J _ ?_; clear J K))
  rw [z0g, z0k]
  exact z08 (by simp only [pureD, pureD.pureL, z0h, ze7, Bool.and_self]) (Le.refl _)
 ·have hidd : decide (t.id = id) = false := decide_eq_false hid
  rw [if_neg hid]
  repeat' (first | refine nxt ?_ | ((refine zqh fun K J => ?_); (simp (disch := omega) only [go_sem, Nat.reduceBEq, ↓reduceIte, reduceCtorEq, Nat.reduceAdd, Nat.reduceMul, Nat.reduceLeDiff, hidd])) | (refine zqd _ rfl ?_ ?_ <;> intro hc <;> (first | (cases hc; done) | ((try simp only [] at hc); (try omega)))) | (refine J _ ?_; clear J K))
  (refine z3c (fun U st => ∃ (i : _), U = t.kids.length - i /\ st.t 4 = .ptr 0 0 /\ st.t 5 = .ptr 1 0 /\ st.t 2 = .int .i64 n /\ st.t 7 = .ptr 2 0 /\ st.t 8 = .ptr 3 0 /\ st.t 9 = .osl 4 i /\ st.t 10 = .int .i64 i /\ st.H 0 = some (.box 27 (z69 t)) /\ st.H 1 = some (.box 23 (z0b id)) /\ st.H 2 = some (.box 27 (z0a x)) /\ st.H 3 = some (.box 27 [.int .i64 0, .int .i64 0, .int .i64 0, .int .i64 0, .str ByteArray.empty, .nil, .nil, .nil]) /\ st.H 4 = some (.row 27 i (((t.kids.take i).map (z1g id (z7r n x))).flatMap z0a)) /\ (i <= t.kids.length) /\ (5 <= st.nx)) ?_ ?_); rotate_left; (rintro U st ⟨i, rfl, q4, q5, q2, q7, q8, q9, q10, qH0, qH1, qH2, qH3, qH4, qp0, qp1⟩); rotate_left
  ·(refine ⟨_, 0, rfl, ?_⟩); (simp (disch := omega) only [go_sem, Nat.reduceBEq, Nat.reduceLeDiff, and_self, Int.natCast_zero, List.flatMap_nil, List.map_nil, z0b, z69])
   try exact ⟨rfl, rfl⟩
  by_cases hi : i < t.kids.length
  ·have hin := ih t.kids[i] (List.getElem_mem hi) (h4 _ (List.getElem_mem hi)) (fun q hq => hn q (z2n (List.getElem_mem hi) hq))
   have htk := List.take_succ_eq_append_getElem hi
   repeat' (first | refine nxt ?_ | ((first | refine zqh fun K J => ?_ | refine zqr fun K J => ?_ | refine zqq (by decide +kernel) fun K J => ?_ | refine zqt (hin) ?_); (simp (disch := omega) only [go_sem, Nat.reduceBEq, Nat.reduceEqDiff, ↓reduceIte, reduceCtorEq, Nat.reduceAdd, Nat.reduceMul, Nat.reduceLeDiff, q4, q5, q2, q7, q9, q10, qH0, qH1, qH2, qH4, z0b, z69, z0q])) | (refine zqd _ rfl ?_ ?_ <;> intro hc <;> (((try simp only [z07] at hc); (try omega)))) | (refine J _ ?_; clear J K))
   (refine Exists.intro _ (And.intro ?_ ⟨i + 1, rfl, ?_⟩)); rotate_left; (simp (disch := omega) only [go_sem, Nat.reduceBEq, q4, q5, q2, q7, q8, q9, q10, qH0, qH1, qH2, qH3, qH4, true_and, Int.natCast_add, Int.natCast_one, List.flatMap_append, List.flatMap_cons, List.flatMap_nil, List.map_append, List.map_cons, List.map_nil, List.append_nil, htk, z0b, z69]); rotate_left
   ·omega
   ·omega
  ·repeat' (first | refine nxt ?_ | ((refine zqh fun K J => ?_); (simp (disch := omega) only [go_sem, Nat.reduceBEq, ↓reduceIte, reduceCtorEq, Nat.reduceAdd, Nat.reduceLeDiff, Nat.reduceLT, q4, q8, q9, q10, qH0, qH3, z0q, z69, List.set_cons_succ, List.set_cons_zero])) | (refine zqd _ rfl ?_ ?_ <;> intro hc <;> (((try simp only [z07] at hc); (try omega)))) | refine zqz ?_ | refine zqu (by (simp (disch := omega) only [go_sem, Nat.reduceBEq, ↓reduceIte, Nat.reduceAdd, Nat.reduceLeDiff, q8, qH3]); rfl) rfl ?_ | (refine J _ ?_; clear J K))
   have hi2 : i = t.kids.length := by omega
   subst hi2
   rw [List.take_length] at qH4
   refine z3i (z5p 2 (t := t.setKids (t.kids.map (z1g id (z7r n x)))) (z16 (f := z0a) (l := t.kids.map (z1g id (z7r n x))) 1 ?_ ?_ z0j z2s z0c z04) rfl)
   ·rw [List.length_map]
   ·(simp (disch := omega) only [go_sem, Nat.reduceBEq, qH4])
theorem zp8 (x : T) : ∀ t : T, szB t = true -> PC prog 142 [z0g t, z0g x] (z0g (z1g x.id (fun q => x.setKids q.kids) t)) := by
 refine z4x fun t ih hs => ?_
 obtain ⟨h0, h1, g1, h2, g2, h3, h4⟩ := (z2f t).1 hs
 refine z14 4 (by simp only [pureD.pureL, z01, Bool.and_self]) (z01 _) (z0z [16, 3000013, 3000019, 3000026, 3000029, 3000030] func142 rfl (by decide +kernel) rfl ?_)
 show awp _ _ (Code.seq _ _) _ _
 rw [show Tryz.f142.results.toList = [.cell 4 27] from rfl]
 rw [show z0g t = .agg _ from by rw [z0g, z0k], z84]
 by_cases hid : t.id = x.id
 ·have hidd : decide (t.id = x.id) = true := decide_eq_true hid
  rw [if_pos hid]
  rw [show z0g x = .agg _ from by rw [z0g, z0k]]
  repeat' (first | refine nxt ?_ | ((refine zqh fun K J => ?_); (simp (disch := omega) only [go_sem, Nat.reduceBEq, ↓reduceIte, reduceCtorEq, Nat.reduceAdd, Nat.reduceLeDiff, Nat.reduceLT, hidd, z0q, List.set_cons_succ, List.set_cons_zero])) | (refine zqd _ rfl ?_ ?_ <;> intro hc <;> (first | (cases hc; done) | ((try simp only [] at hc); (try omega)))) | refine zqu (by (simp (disch := omega) only [go_sem, Nat.reduceBEq, ↓reduceIte, Nat.reduceAdd, Nat.reduceLeDiff]); rfl) rfl ?_ | (refine J _ ?_; clear J K))
  rw [z0g, z0k]
  exact z08 (by simp only [pureD, pureD.pureL, z0h, ze7, Bool.and_self]) (Le.refl _)
 ·have hidd : decide (t.id = x.id) = false := decide_eq_false hid
  rw [if_neg hid]
  repeat' (first | refine nxt ?_ | ((refine zqh fun K J => ?_); (simp (disch := omega) only [go_sem, Nat.reduceBEq, ↓reduceIte, reduceCtorEq, Nat.reduceAdd, Nat.reduceMul, Nat.reduceLeDiff, hidd])) | (refine zqd _ rfl ?_ ?_ <;> intro hc <;> (first | (cases hc; done) | ((try simp only [] at hc); (try omega)))) | (refine J _ ?_; clear J K))
  (refine z3c (fun U st => ∃ (i : _), U = t.kids.length - i /\ st.t 2 = .ptr 0 0 /\ st.t 3 = .ptr 1 0 /\ st.t 4 = .ptr 2 0 /\ st.t 5 = .osl 3 i /\ st.t 6 = .int .i64 i /\ st.H 0 = some (.box 27 (z69 t)) /\ st.H 1 = some (.box 27 (z0a x)) /\ st.H 2 = some (.box 27 [.int .i64 0, .int .i64 0, .int .i64 0, .int .i64 0, .str ByteArray.empty, .nil, .nil, .nil]) /\ st.H 3 = some (.row 27 i (((t.kids.take i).map (z1g x.id (fun q => x.setKids q.kids))).flatMap z0a)) /\ (i <= t.kids.length) /\ (4 <= st.nx)) ?_ ?_); rotate_left; (rintro U st ⟨i, rfl, q2, q3, q4, q5, q6, qH0, qH1, qH2, qH3, qp0, qp1⟩); rotate_left
  ·(refine ⟨_, 0, rfl, ?_⟩); (simp (disch := omega) only [go_sem, Nat.reduceBEq, Nat.reduceLeDiff, and_self, Int.natCast_zero, List.flatMap_nil, List.map_nil, z69])
   try exact ⟨rfl, rfl⟩
  by_cases hi : i < t.kids.length
  ·have hin := ih t.kids[i] (List.getElem_mem hi) (h4 _ (List.getElem_mem hi))
   have htk := List.take_succ_eq_append_getElem hi
   repeat' (first | refine nxt ?_ | ((first | refine zqh fun K J => ?_ | refine zqr fun K J => ?_ | refine zqq (by decide +kernel) fun K J => ?_ | refine zqt (hin) ?_); (simp (disch := omega) only [go_sem, Nat.reduceBEq, Nat.reduceEqDiff, ↓reduceIte, reduceCtorEq, Nat.reduceAdd, Nat.reduceMul, Nat.reduceLeDiff, q2, q3, q5, q6, qH0, qH1, qH3, z69, z0q])) | (refine zqd _ rfl ?_ ?_ <;> intro hc <;> (((try simp only [z07] at hc); (try omega)))) | (refine J _ ?_; clear J K))
   (refine Exists.intro _ (And.intro ?_ ⟨i + 1, rfl, ?_⟩)); rotate_left; (simp (disch := omega) only [go_sem, Nat.reduceBEq, q2, q3, q4, q5, q6, qH0, qH1, qH2, qH3, true_and, Int.natCast_add, Int.natCast_one, List.flatMap_append, List.flatMap_cons, List.flatMap_nil, List.map_append, List.map_cons, List.map_nil, List.append_nil, htk, z69]); rotate_left
   ·omega
   ·omega
  ·repeat' (first | refine nxt ?_ | ((refine zqh fun K J => ?_); (simp (disch := omega) only [go_sem, Nat.reduceBEq, ↓reduceIte, reduceCtorEq, Nat.reduceAdd, Nat.reduceLeDiff, Nat.reduceLT, q2, q4, q5, q6, qH0, qH2, z0q, z69, List.set_cons_succ, List.set_cons_zero])) | (refine zqd _ rfl ?_ ?_ <;> intro hc <;> (((try simp only [z07] at hc); (try omega)))) | refine zqz ?_ | refine zqu (by (simp (disch := omega) only [go_sem, Nat.reduceBEq, ↓reduceIte, Nat.reduceAdd, Nat.reduceLeDiff, q4, qH2]); rfl) rfl ?_ | (refine J _ ?_; clear J K))
   have hi2 : i = t.kids.length := by omega
   subst hi2
   rw [List.take_length] at qH3
   refine z3i (z5p 2 (t := t.setKids (t.kids.map (z1g x.id (fun q => x.setKids q.kids)))) (z16 (f := z0a) (l := t.kids.map (z1g x.id (fun q => x.setKids q.kids))) 1 ?_ ?_ z0j z2s z0c z04) rfl)
   ·rw [List.length_map]
   ·(simp (disch := omega) only [go_sem, Nat.reduceBEq, qH3])
theorem zyc (t x : T) (hs : szB t = true) (hx : szB x = true) (hc : cntT x <= 1000000) : PC prog 188 [z0g t, z0g x] (.bool ((z0i x).any fun i => (z06 i t).2)) := by
 have c1 := zr6 x hx (by omega)
 have hl := z2c x
 refine z14 1 (by simp only [pureD.pureL, z01, Bool.and_self]) rfl (z0z [3000015, 3000019, 5000020] func188 rfl (by decide +kernel) rfl ?_)
 show awp _ _ (Code.seq _ _) _ _
 repeat' (first | refine nxt ?_ | ((first | refine zqh fun K J => ?_ | refine zqs (c1) ?_); (simp (disch := omega) only [go_sem, Nat.reduceBEq, ↓reduceIte, Nat.reduceAdd, Nat.reduceLeDiff])) | (refine J _ ?_; clear J K))
 (refine z3c (fun U st => ∃ (i : _), U = (z0i x).length - i /\ st.t 2 = .ptr 0 0 /\ st.t 3 = .ptr 1 0 /\ st.t 5 = z15 (z0i x) /\ st.t 6 = .int .i64 i /\ st.H 0 = some (.box 27 (z0a t)) /\ st.H 1 = some (.box 27 (z0a x)) /\ (i <= (z0i x).length) /\ (2 <= st.nx) /\ (((z0i x).take i).any (fun i => (z06 i t).2) = false)) ?_ ?_); rotate_left; (rintro U st ⟨i, rfl, q2, q3, q5, q6, qH0, qH1, qp0, qp1, qp2⟩); rotate_left
 ·(refine ⟨_, 0, rfl, ?_⟩); (simp (disch := omega) only [go_sem, Nat.reduceBEq, Nat.reduceLeDiff, and_self, Int.natCast_zero])
  try simp
 have hin := fun (h : i < (z0i x).length) => zyi t hs (z0i x)[i]
 repeat' (first | refine nxt ?_ | ((first | refine zqh fun K J => ?_ | refine zqe (by decide +kernel) fun K J => ?_ | refine zqr fun K J => ?_ | refine zqt (hin (by omega)) ?_); (simp (disch := omega) only [go_sem, Nat.reduceBEq, Nat.reduceEqDiff, ↓reduceIte, reduceCtorEq, Nat.reduceAdd, Nat.reduceLeDiff, q2, q5, q6, qH0, z15])) | ((first | refine zqd _ rfl (fun hc => ?_) (fun hc => ?_) | refine zqm _ rfl (fun hc => ?_) (fun hc => ?_)) <;> (((try simp only [z07] at hc); (try omega)))) | refine zqz ?_ | refine zqu (by simp only [go_sem]; rfl) rfl ?_ | (refine J _ ?_; clear J K))
 ·exact z03 (zku (i := i) (by omega) (by assumption)).symm
 ·(refine Exists.intro _ (And.intro ?_ ⟨i + 1, rfl, ?_⟩)); rotate_left; (simp (disch := omega) only [go_sem, Nat.reduceBEq, q2, q3, q5, q6, qH0, qH1, true_and, Int.natCast_add, Int.natCast_one]); rotate_left
  ·omega
  ·exact ⟨by omega, by omega, z52 (by omega) qp2 (by assumption)⟩
 ·exact z03 (zkv (i := i) (by omega) qp2).symm

namespace Tr
def z3e (u : T) (parent : Idv) (i : Int) (x : T) : Int :=
 if standsT u = false \/ standsT x = false \/ x.kind = 0 then 1 else
 if (z06 parent u).2 = false then 4 else
 if z1x (z06 parent u).1.kind x.kind = false then 9 else
 if i < 0 \/ ((z06 parent u).1.kids.length : Int) < i then 3 else
 if z3b (z06 parent u).1.kids x.kind x.label = true then 10 else
 if 64 <= (z06 parent u).1.kids.length \/ 8 < (z7g parent u).length + 1 + depT x \/ 1024 < cntT u + cntT x then 6 else
 if ((z0i x).any fun i => (z06 i u).2) = true then 5 else 0
theorem zl9 (l : List T) (k : Int) (n : ByteArray) (b : Idv) : zn4 l k n b true = z3b l k n := by
 unfold zn4 z3b; simp
theorem zc6 {id : Idv} {u : T} (h : (z06 id u).2 = true) : (z06 id u).1 ∈ z0l u := by
 have hm := zay.1 h
 unfold z06
 rw [zfo _ hm]
 exact zkz id u _ (List.getElem_mem _)
theorem z8h {id : Idv} {u q : T} (hn : (z0i u).Nodup) (hq : q ∈ z0l u) (hid : q.id = id) : z06 id u = (q, true) := by
 have key : ∀ u : T, (z0i u).Nodup -> q ∈ z0l u -> z06 id u = (q, true) := by
  refine z4x fun u ih hn hq => ?_
  rw [z25, List.mem_cons] at hq
  rcases hq with rfl | hq
  ·exact z3g hid
  ·obtain ⟨k, O, hqk⟩ := List.mem_flatMap.1 hq
   obtain ⟨i, hi, rfl⟩ := List.getElem_of_mem O
   obtain ⟨g1, g2, g3⟩ := ze6 hn
   have hin : id ∈ z0i u.kids[i] := List.mem_map.2 ⟨q, hqk, hid⟩
   have h2 := ih _ O (g2 _ O) hqk
   have hw : z2i id u.kids[i] ≠ [] := zae.2 hin
   rw [z5n (z6m (fun e => g1 _ O (e ▸ hin)) hi (fun j hj h => (z9e id _).2 (g3 i j hi h (by omega) id hin)) hw) hw, h2]
 exact key u hn hq
def z5m (u : T) (id : Idv) : Int := if standsT u = false then 1 else if (z06 id u).2 = false then 4 else if u.id = id then 9 else 0
theorem zc7 {u x : T} {parent : Idv} {i : Int} (h : z3e u parent i x = 0) : (standsT u = true /\ standsT x = true /\ x.kind ≠ 0 /\ (z06 parent u).2 = true /\ z1x (z06 parent u).1.kind x.kind = true /\ z3b (z06 parent u).1.kids x.kind x.label = false /\ (z06 parent u).1.kids.length < 64 /\ (z7g parent u).length + 1 + depT x <= 8 /\ cntT u + cntT x <= 1024 /\ ((z0i x).any fun i => (z06 i u).2) = false) /\
  parent ∈ z0i u /\ ∃ n : Nat, i = n /\ ∀ q ∈ z0l u, q.id = parent -> n <= q.kids.length := by
 unfold z3e at h
 split at h
 ·cases h
 rename_i h1
 split at h
 ·cases h
 rename_i h2
 split at h
 ·cases h
 rename_i h3
 split at h
 ·cases h
 rename_i h4
 split at h
 ·cases h
 rename_i h5
 split at h
 ·cases h
 rename_i h6
 split at h
 ·cases h
 rename_i h7
 simp only [not_or, Bool.not_eq_false, Bool.not_eq_true] at h1 h2 h3 h5 h7
 refine ⟨⟨h1.1, h1.2.1, h1.2.2, h2, h3, h5, by omega, by omega, by omega, h7⟩, ?_, i.toNat, by omega, fun q hq hid => ?_⟩
 ·rw [z33, decide_eq_true_eq] at h2; exact h2
 ·rw [z8h ((z24 u).1 h1.1).2.2.2.1 hq hid] at h4
  simp only at h4
  omega
end Tr
theorem z002 (u x : T) (hu : szB u = true) (hx : szB x = true) (cu : cntT u <= 1000000) (cx : cntT x <= 1000000) (du : depT u <= 1000000) (dx : depT x <= 1000000) (parent : Idv) (i : Int) (hi : -9223372036854775808 <= i /\ i <= 9223372036854775807) :
  PC prog 147 [z0g u, z1a parent, .int .i64 i, z0g x] (.int .i64 (z3e u parent i x)) := by
 have c1 := z5u u hu (by omega) (by omega)
 have c2 := z5u x hx (by omega) (by omega)
 have c3 := z49 parent u hu
 have hf := z4p parent u hu
 have O := (z9g hf).1
 have c4 := zk2 (z06 parent u).1.kind x.kind
 have c5 := zh6 (z06 parent u).1.kids O x.kind x.label x.id true
 rw [zl9] at c5
 have c6 := zs1 u hu (by omega) parent
 have c7 := zgh x hx (by omega)
 have c8 := zgg u hu (by omega)
 have c9 := zgg x hx (by omega)
 have c10 := zyc u x hu hx cx
 have ha := zfp parent u
 unfold z3e
 refine z14 1 (by simp only [pureD.pureL, z01, pureD, Bool.and_self]; rfl) rfl (z0z [8000000, 3000057, 3000061, 3000062, 5000063, 3000065, 5000066, 3000071, 5000072, 3000073, 5000074] func147 rfl (by decide +kernel) rfl ?_)
 show awp _ _ (Code.seq _ _) _ _
 repeat' (first | refine nxt ?_ | ((first | refine z1j (N := 10) rfl fun K J => ?_ | refine zqs (c1) ?_ | refine zqs (c2) ?_ | refine zqs (c3) ?_ | refine zqs (c4) ?_); (simp (disch := omega) only [go_sem, Nat.reduceBEq, ↓reduceIte, reduceCtorEq, Nat.reduceAdd, Nat.reduceLeDiff])) | (refine zqd _ rfl ?_ ?_ <;> intro hc <;> (first | (cases hc; done) | ((try simp only [z07] at hc); (try omega)))) | refine zqu (by simp only [go_sem]; rfl) rfl ?_ | (refine J _ ?_; clear J K) | (refine zqf (fun hb => ?_) (fun hb => ?_) <;> (have hb2 := hb; try simp only [z07] at hb2) <;> ((first | have F : (_ : Bool) = _ := hb2 | have F := eq_false hb2 | have F := eq_true hb2); (simp (disch := omega) only [go_sem, Nat.reduceBEq, ↓reduceIte, reduceCtorEq, Nat.reduceAdd, Nat.reduceLeDiff, F, z0q]); clear hb F; (try omega))))
 all_goals first | (refine z1k ?_; clear c1 c2 c3 c4 c5 c6 c7 c8 c9 c10; (repeat' split) <;> first | rfl | (exfalso; simp_all <;> omega)) | skip
 (refine zvx (fun st => st.t 2 = .int .i64 i /\ st.t 4 = .ptr 0 0 /\ st.t 5 = .ptr 1 0 /\ st.t 7 = .ptr 2 0 /\ st.t 9 = .ptr 3 0 /\ st.H 0 = some (.box 27 (z0a u)) /\ st.H 1 = some (.box 23 (z0b parent)) /\ st.H 2 = some (.box 27 (z0a x)) /\ st.H 3 = some (.box 27 (z0a (z06 parent u).1)) /\ st.nx = 4) ?_ ?_); rotate_left; (rintro st ⟨p2, p4, p5, p7, p9, pH0, pH1, pH2, pH3, pnx⟩); rotate_left
 ·(simp (disch := omega) only [go_sem, Nat.reduceBEq, and_self, z0b])
 repeat' (first | refine nxt ?_ | ((first | refine zqh fun K J => ?_ | refine zqe (by decide +kernel) fun K J => ?_ | refine zqs (c5) ?_ | refine zqt (c6) ?_ | refine zqt (c7) ?_ | refine zqt (c8) ?_ | refine zqt (c9) ?_ | refine zqs (c10) ?_); (simp (disch := omega) only [go_sem, Nat.reduceBEq, Nat.reduceEqDiff, ↓reduceIte, reduceCtorEq, Nat.reduceAdd, Nat.reduceLeDiff, Nat.reduceLT, p4, p7, p9, pH0, pH2, pH3, pnx, z0q])) | (refine zqd _ rfl ?_ ?_ <;> intro hc <;> (first | (cases hc; done) | ((try simp only [z07] at hc); (try omega)))) | refine zqu (by simp only [go_sem]; rfl) rfl ?_ | (refine J _ ?_; clear J K) | (refine zqf (fun hb => ?_) (fun hb => ?_) <;> (have hb2 := hb; try simp only [z07] at hb2) <;> ((first | have F := eq_false hb2 | have F := eq_true hb2); (simp (disch := omega) only [go_sem, Nat.reduceBEq, Nat.reduceEqDiff, ↓reduceIte, Nat.reduceAdd, Nat.reduceLeDiff, F, p4, p5, pH0, pH1, pnx, z0b]); clear hb F; (try omega))))
 all_goals (refine z1k ?_; clear c1 c2 c3 c4 c5 c6 c7 c8 c9 c10; (repeat' split) <;> first | rfl | (exfalso; simp_all <;> omega))
theorem zsl (u x : T) (hu : szB u = true) (hx : szB x = true) (cu : cntT u <= 1000000) (cx : cntT x <= 1000000) (du : depT u <= 1000000) (dx : depT x <= 1000000) (parent : Idv) (i : Int) (hi : -9223372036854775808 <= i /\ i <= 9223372036854775807) :
  PC prog 98 [z0g u, z1a parent, .int .i64 i, z0g x] (.tup [z0g (if z3e u parent i x ≠ 0 then T.zero else z1g parent (z7r i.toNat x) u), .int .i64 (z3e u parent i x)]) := by
 have c1 := z002 u x hu hx cu cx du dx parent i hi
 refine z14 3 (by simp only [pureD.pureL, z01, pureD, Bool.and_self]; rfl) (by simp only [pureD.pureL, z01, pureD, Bool.and_self]) (z0z [] func98 rfl (by decide +kernel) rfl ?_)
 show awp _ _ (Code.seq _ _) _ _
 rw [show Tryz.f98.results.toList = [.cell 8 27, .tmp 9] from rfl]
 by_cases hw : z3e u parent i x = 0
 ·obtain ⟨hr, hm, n, rfl, hn⟩ := zc7 hw
  have c2 := zrz parent n x u hu hn
  rw [hw] at c1 ⊢
  rw [if_neg (fun h => h rfl), Int.toNat_natCast]
  repeat' (first | refine nxt ?_ | ((first | refine zqh fun K J => ?_ | refine zqs (c1) ?_ | refine zqs (c2) ?_); (simp (disch := omega) only [go_sem, Nat.reduceBEq, ↓reduceIte, Nat.reduceAdd, Nat.reduceLeDiff])) | (refine zqd _ rfl ?_ ?_ <;> intro hc <;> (first | (cases hc; done) | ((try simp only [] at hc); (try omega)))) | refine zqu (by (simp (disch := omega) only [go_sem, Nat.reduceBEq, ↓reduceIte, Nat.reduceLeDiff]); rfl) rfl ?_ | (refine J _ ?_; clear J K))
  refine z08 ?_ (Le.refl _)
  simp only [pureD, pureD.pureL, z04, Bool.and_self]
 ·rw [if_pos hw]
  repeat' (first | refine nxt ?_ | ((first | refine zqh fun K J => ?_ | refine zqs (c1) ?_); (simp (disch := omega) only [go_sem, Nat.reduceBEq, ↓reduceIte, Nat.reduceAdd, Nat.reduceLeDiff])) | (refine zqd _ rfl ?_ ?_ <;> intro hc <;> (((try simp only [z07] at hc); (try omega)))) | refine zqu (by (simp (disch := omega) only [go_sem, Nat.reduceBEq, ↓reduceIte, Nat.reduceAdd, Nat.reduceLeDiff]); rfl) rfl ?_ | (refine J _ ?_; clear J K))
  exact z08 rfl (Le.tup ⟨z0t, Le.refl _, trivial⟩)
theorem pc_Take (u : T) (hu : szB u = true) (cu : cntT u <= 1000000) (du : depT u <= 1000000) (id : Idv) :
  PC prog 99 [z0g u, z1a id] (.tup [z0g (if z5m u id = 0 then z0o id u else T.zero), z0g (if z5m u id = 0 then (z06 id u).1 else T.zero), .int .i64 (z5m u id)]) := by
 have c1 := z5u u hu (by omega) (by omega)
 have c3 := z49 id u hu
 have c4 := zj1 id u hu
 have hz : Le (.agg [.int .i64 0, .int .i64 0, .int .i64 0, .int .i64 0, .str ByteArray.empty, .nil, .nil, .nil]) (z0g T.zero) := z0t
 refine z14 3 (by simp only [pureD.pureL, z01]; rfl) (by simp only [pureD.pureL, z01, pureD, Bool.and_self]) (z0z [3000030, 3000031, 5000032, 600033, 900004, 600004, 900002, 600005, 900003] func99 rfl (by decide +kernel) rfl ?_)
 show awp _ _ (Code.seq _ _) _ _
 rw [show Tryz.f99.results.toList = [.cell 4 27, .cell 5 27, .tmp 6] from rfl]
 by_cases h1 : standsT u = true
 ·by_cases h2 : (z06 id u).2 = true
  ·by_cases h3 : u.id = id
   ·have e : z5m u id = 9 := by unfold z5m; rw [if_neg (by simp [h1]), if_neg (by simp [h2]), if_pos h3]
    rw [e, if_neg (by decide), if_neg (by decide)]
    have h3d : decide (u.id = id) = true := decide_eq_true h3
    rw [h1] at c1
    rw [h2] at c3
    repeat' (first | refine nxt ?_ | ((first | refine zqh fun K J => ?_ | refine zqs (c1) ?_ | refine zqs (c3) ?_); (simp (disch := omega) only [go_sem, Nat.reduceBEq, ↓reduceIte, reduceCtorEq, Nat.reduceAdd, Nat.reduceLeDiff, h3d])) | (refine zqd _ rfl ?_ ?_ <;> intro hc <;> (first | (cases hc; done) | ((try simp only [] at hc); (try omega)))) | refine zqu (by (simp (disch := omega) only [go_sem, Nat.reduceBEq, ↓reduceIte, Nat.reduceAdd, Nat.reduceLeDiff]); rfl) rfl ?_ | (refine J _ ?_; clear J K))
    exact z08 rfl (Le.tup ⟨z0t, z0t, Le.refl _, trivial⟩)
   ·have e : z5m u id = 0 := by unfold z5m; rw [if_neg (by simp [h1]), if_neg (by simp [h2]), if_neg h3]
    rw [e, if_pos rfl, if_pos rfl]
    have h3d : decide (u.id = id) = false := decide_eq_false h3
    rw [h1] at c1
    rw [h2] at c3
    repeat' (first | refine nxt ?_ | ((first | refine zqh fun K J => ?_ | refine zqe (by decide +kernel) fun K J => ?_ | refine zqs (c1) ?_ | refine zqs (c3) ?_ | refine zqt (c4) ?_); (simp (disch := omega) only [go_sem, Nat.reduceBEq, Nat.reduceEqDiff, ↓reduceIte, reduceCtorEq, Nat.reduceAdd, Nat.reduceLeDiff, h3d])) | (refine zqd _ rfl ?_ ?_ <;> intro hc <;> (first | (cases hc; done) | ((try simp only [] at hc); (try omega)))) | refine zqu (by (simp (disch := omega) only [go_sem, Nat.reduceBEq, ↓reduceIte, Nat.reduceLeDiff]); rfl) rfl ?_ | (refine J _ ?_; clear J K))
    refine z08 ?_ (Le.refl _)
    simp only [pureD, pureD.pureL, z04, Bool.and_self]
  ·have e : z5m u id = 4 := by unfold z5m; rw [if_neg (by simp [h1]), if_pos (by simpa using h2)]
   rw [e, if_neg (by decide), if_neg (by decide)]
   rw [Bool.not_eq_true] at h2
   rw [h1] at c1
   rw [h2] at c3
   repeat' (first | refine nxt ?_ | ((first | refine zqh fun K J => ?_ | refine zqs (c1) ?_ | refine zqs (c3) ?_); (simp (disch := omega) only [go_sem, Nat.reduceBEq, ↓reduceIte, Nat.reduceAdd, Nat.reduceLeDiff])) | (refine zqd _ rfl ?_ ?_ <;> intro hc <;> (first | (cases hc; done) | ((try simp only [] at hc); (try omega)))) | refine zqu (by (simp (disch := omega) only [go_sem, Nat.reduceBEq, ↓reduceIte, Nat.reduceAdd, Nat.reduceLeDiff]); rfl) rfl ?_ | (refine J _ ?_; clear J K))
   exact z08 rfl (Le.tup ⟨z0t, z0t, Le.refl _, trivial⟩)
 ·have e : z5m u id = 1 := by unfold z5m; rw [if_pos (by simpa using h1)]
  rw [e, if_neg (by decide), if_neg (by decide)]
  rw [Bool.not_eq_true] at h1
  rw [h1] at c1
  repeat' (first | refine nxt ?_ | ((first | refine zqh fun K J => ?_ | refine zqs (c1) ?_); (simp (disch := omega) only [go_sem, Nat.reduceBEq, ↓reduceIte, Nat.reduceAdd, Nat.reduceLeDiff])) | (refine zqd _ rfl ?_ ?_ <;> intro hc <;> (first | (cases hc; done) | ((try simp only [] at hc); (try omega)))) | refine zqu (by (simp (disch := omega) only [go_sem, Nat.reduceBEq, ↓reduceIte, Nat.reduceAdd, Nat.reduceLeDiff]); rfl) rfl ?_ | (refine J _ ?_; clear J K))
  exact z08 rfl (Le.tup ⟨z0t, z0t, Le.refl _, trivial⟩)
namespace Abs
theorem z37 {P : Program} {H : HM} {nn : Bool} {sz : Nat} {els els' : List D} (k : Nat) (hp : pureD.pureL els = false) (hc : ze4 (z2p P H k) els = some els') : z2p P H (k + 1) (.rsl nn sz els) = some (.rsl nn sz els') := by
 unfold z2p
 simp only [pureD, hp, Bool.false_eq_true, if_false, hc, Option.map_some]
abbrev Chk := FuncId × List D × Int × Bool
def zk4 (c : Chk) : D := .agg [.fn c.1 c.2.1, .int .i64 c.2.2.1]
def z8r (l : List Chk) : Int := match l.find? (fun c => c.2.2.2) with
 | some c => c.2.2.1
 | none => 0
theorem ztx {l : List Chk} {i : Nat} (hi : i < l.length) (h1 : ∀ j, (hj : j < i) -> (h : j < l.length) -> l[j].2.2.2 = false) (h2 : l[i].2.2.2 = true) : z8r l = l[i].2.2.1 := by
 unfold z8r
 have : l.find? (fun c => c.2.2.2) = some l[i] := List.find?_eq_some_iff_getElem.2 ⟨h2, i, hi, rfl, fun j hj => by rw [h1 j hj (by omega)]; rfl⟩
 rw [this]
theorem zoy {l : List Chk} (h1 : ∀ j, (h : j < l.length) -> l[j].2.2.2 = false) : z8r l = 0 := by
 unfold z8r
 have : l.find? (fun c => c.2.2.2) = none := by
  rw [List.find?_eq_none]
  intro c hc
  obtain ⟨j, hj, rfl⟩ := List.getElem_of_mem hc
  rw [h1 j hj]; simp
 rw [this]
theorem z4l (f : FuncId) (c : List D) (e : Int) (l : List Chk) : z8r ((f, c, e, false) :: l) = z8r l := rfl
theorem z0v {P : Program} {H : HM} {f : FuncId} {cap cap' : List D} {e : Int} (b : Bool) (k : Nat) (hp : pureD.pureL cap = false) (hc : ze4 (z2p P H (k + 1)) cap = some cap') : z2p P H (k + 3) (.agg [.fn f cap, .int .i64 e]) = some (zk4 (f, cap', e, b)) :=
 z4z (k + 2) (by simp only [pureD.pureL, pureD, hp, Bool.false_and]) (z00 (zcc (k + 1) hp hc) (z00 (z02 (k + 1) rfl) z0d))
end Abs
theorem zbc (l : List Chk) (hl : l.length <= 1000) (hp : ∀ c ∈ l, pureD.pureL c.2.1 = true /\ PC prog c.1 c.2.1 (.bool c.2.2.2)) : PC prog 117 [.rsl true 2 (l.map zk4)] (.int .i64 (z8r l)) := by
 have hpu : ∀ c ∈ l, pureD (zk4 c) = true := fun c hc => by simp only [zk4, pureD, pureD.pureL, (hp c hc).1, Bool.and_self]
 refine z14 1 (by
  simp only [pureD.pureL, pureD, Bool.and_true]
  clear hl
  induction l with
  | nil => rfl
  | cons c l ih =>
   simp only [List.map_cons, pureD.pureL, Bool.and_eq_true]
   exact ⟨hpu c (by simp), ih (fun c hc => hp c (List.mem_cons_of_mem _ hc)) (fun c hc => hpu c (List.mem_cons_of_mem _ hc))⟩) rfl (z0z [] func117 rfl (by decide +kernel) rfl ?_)
 show awp _ _ (Code.seq _ _) _ _
 repeat' (first | refine nxt ?_ | ((refine zqh fun K J => ?_); (simp (disch := omega) only [go_sem, Nat.reduceBEq])) | (refine J _ ?_; clear J K))
 (refine z3c (fun U st => ∃ (i : _), U = l.length - i /\ st.t 5 = .rsl true 2 (l.map zk4) /\ st.t 6 = .int .i64 l.length /\ st.t 7 = .int .i64 i /\ (i <= l.length) /\ (∀ j, (hj : j < i) -> (h : j < l.length) -> l[j].2.2.2 = false)) ?_ ?_); rotate_left; (rintro U st ⟨i, rfl, q5, q6, q7, qp0, qp1⟩); rotate_left
 ·(refine ⟨_, 0, rfl, ?_⟩); (simp (disch := omega) only [go_sem, Nat.reduceBEq, true_and, Int.natCast_zero])
  intro j hj; omega
 by_cases hi : i < l.length
 ·have hci := (hp l[i] (List.getElem_mem hi)).2
  repeat' (first | ((first | refine zqh fun K J => ?_ | refine zqr fun K J => ?_ | refine zqs (hci) ?_); (simp (disch := omega) only [go_sem, Nat.reduceBEq, ↓reduceIte, reduceCtorEq, Nat.reduceAdd, Nat.reduceLeDiff, q5, q6, q7, zk4])) | ((first | refine zqd _ rfl (fun hc => ?_) (fun hc => ?_) | refine zqm _ rfl (fun hc => ?_) (fun hc => ?_)) <;> (((try simp only [z07] at hc); (try omega)))) | refine nxt ?_ | refine zqu (by simp only [go_sem]; rfl) rfl ?_ | (refine J _ ?_; clear J K))
  ·rw [ztx hi qp1 (by assumption)]; exact z1k rfl
  ·(refine Exists.intro _ (And.intro ?_ ⟨i + 1, rfl, ?_⟩)); rotate_left; (simp (disch := omega) only [go_sem, Nat.reduceBEq, q5, q6, q7, true_and, Int.natCast_add, Int.natCast_one]); rotate_left
   ·omega
   ·refine ⟨by omega, fun j hj h => ?_⟩
    by_cases e : j = i
    ·subst e; assumption
    ·exact qp1 j (by omega) h
 ·repeat' (first | ((refine zqh fun K J => ?_); (simp (disch := omega) only [go_sem, ↓reduceIte, q6, q7])) | (refine zqd _ rfl ?_ ?_ <;> intro hc <;> (((try simp only [z07] at hc); (try omega)))) | refine nxt ?_ | refine zqz ?_ | refine zqu (by simp only [go_sem]; rfl) rfl ?_ | (refine J _ ?_; clear J K))
  rw [zoy fun j h => qp1 j (by omega) h]; exact z1k rfl
theorem pc_fits3 (ok : Bool) : PC prog 175 [.rptr (.bool ok)] (.bool (!ok)) := by
 refine z14 1 rfl rfl (z0z [] func175 rfl (by decide +kernel) rfl ?_)
 show awp _ _ (Code.seq _ _) _ _
 repeat' (first | ((refine zqh fun K J => ?_); (simp (disch := omega) only [go_sem, Nat.reduceBEq, ↓reduceIte, Nat.reduceAdd])) | refine nxt ?_ | refine zqu (by simp only [go_sem]; rfl) rfl ?_ | (refine J _ ?_; clear J K))
 exact z03 rfl
theorem pc_fits4 (p x : T) : PC prog 176 [.rptr (z0g p), .rptr (z0g x)] (.bool (!z1x p.kind x.kind)) := by
 have c1 := z9f p.kind x.kind
 refine z14 1 (by simp only [pureD.pureL, z01, pureD, Bool.and_self]) rfl (z0z [] func176 rfl (by decide +kernel) rfl ?_)
 show awp _ _ (Code.seq _ _) _ _
 repeat' (first | ((first | refine zqh fun K J => ?_ | refine zqs (c1) ?_); (simp (disch := omega) only [go_sem, Nat.reduceBEq, ↓reduceIte, reduceCtorEq, Nat.reduceAdd])) | refine nxt ?_ | refine zqu (by simp only [go_sem]; rfl) rfl ?_ | (refine J _ ?_; clear J K))
 exact z03 rfl
theorem pc_fits5 (p : T) (i : Int) : PC prog 177 [.rptr (.int .i64 i), .rptr (z0g p)] (.bool (decide (i < 0) || decide ((p.kids.length : Int) < i))) := by
 refine z14 1 (by simp only [pureD.pureL, z01, pureD, Bool.and_self]) rfl (z0z [] func177 rfl (by decide +kernel) rfl ?_)
 show awp _ _ (Code.seq _ _) _ _
 repeat' (first | ((refine zqh fun K J => ?_); (simp (disch := omega) only [go_sem, Nat.reduceBEq, ↓reduceIte, Nat.reduceAdd])) | refine nxt ?_ | refine zqu (by simp only [go_sem]; rfl) rfl ?_ | (refine J _ ?_; clear J K) | (refine zqf (fun hb => ?_) (fun hb => ?_) <;> (have hb2 := hb; try simp only [z07] at hb2) <;> ((first | have F := eq_false hb2 | have F := eq_true hb2); (simp (disch := omega) only [go_sem, Nat.reduceBEq, ↓reduceIte, reduceCtorEq, Nat.reduceAdd, F, z0q]); clear hb F; (try omega))))
 all_goals exact z03 (by simp [hb2])
theorem pc_fits6 (p x : T) (hp : szB p = true) : PC prog 178 [.rptr (z0g p), .rptr (z0g x)] (.bool (z3b p.kids x.kind x.label)) := by
 have c1 := zkf p.kids (z9g hp).1 x.kind x.label
 refine z14 1 (by simp only [pureD.pureL, z01, pureD, Bool.and_self]) rfl (z0z [] func178 rfl (by decide +kernel) rfl ?_)
 show awp _ _ (Code.seq _ _) _ _
 repeat' (first | ((first | refine zqh fun K J => ?_ | refine zqs (c1) ?_); (simp (disch := omega) only [go_sem, Nat.reduceBEq, ↓reduceIte, reduceCtorEq, Nat.reduceAdd, z0q])) | refine nxt ?_ | refine zqu (by simp only [go_sem]; rfl) rfl ?_ | (refine J _ ?_; clear J K))
 exact z03 rfl
def fullB (u p : T) (parent : Idv) (x : T) : Bool := decide (64 <= p.kids.length \/ 8 < (z7g parent u).length + 1 + depT x \/ 1024 < cntT u + cntT x)
theorem pc_fits2 (u p x : T) (hu : szB u = true) (hx : szB x = true) (cu : cntT u <= 1000000) (cx : cntT x <= 1000000) (du : depT u <= 1000000) (dx : depT x <= 1000000) (parent : Idv) :
  PC prog 174 [.rptr (z0g p), .rptr (z0g u), .rptr (z1a parent), .rptr (z0g x)] (.bool (fullB u p parent x)) := by
 have c1 := zrj u (z8l u hu) (by omega) parent
 have c2 := zl4 x (z80 x hx) (by omega)
 have c3 := zfl u (z80 u hu) (by omega)
 have c4 := zfl x (z80 x hx) (by omega)
 have ha := zfp parent u
 refine z14 1 (by simp only [pureD.pureL, z01, pureD, Bool.and_self]; rfl) rfl (z0z [8000000, 3000006, 3000010, 3000011, 5000012, 3000014, 5000015, 3000020, 5000021, 3000022, 5000023] func174 rfl (by decide +kernel) rfl ?_)
 show awp _ _ (Code.seq _ _) _ _
 repeat' (first | ((first | refine zqh fun K J => ?_ | refine zqe (by decide +kernel) fun K J => ?_ | refine zqt (c1) ?_ | refine zqt (c2) ?_ | refine zqt (c3) ?_ | refine zqt (c4) ?_); (simp (disch := omega) only [go_sem, Nat.reduceBEq, Nat.reduceEqDiff, ↓reduceIte, reduceCtorEq, Nat.reduceAdd, z0q])) | refine nxt ?_ | refine zqu (by simp only [go_sem]; rfl) rfl ?_ | (refine J _ ?_; clear J K) | (refine zqf (fun hb => ?_) (fun hb => ?_) <;> (have hb2 := hb; try simp only [z07] at hb2) <;> ((first | have F := eq_false hb2 | have F := eq_true hb2); (simp (disch := omega) only [go_sem, Nat.reduceBEq, Nat.reduceEqDiff, ↓reduceIte, Nat.reduceAdd, F]); clear hb F; (try omega))))
 ·exact z03 (decide_eq_decide.2 (by omega))
 ·exact z03 (decide_eq_true (by omega)).symm
 ·exact z03 (decide_eq_true (by omega)).symm
theorem zxl (u : T) (hu : szB u = true) (du : depT u <= 1000000) (id : Idv) : PC prog 173 [z1a id, .rptr (z0g u)] (.bool (z06 id u).2) := by
 have c1 := zmu u (z8l u hu) (by omega) id
 refine z14 1 (by simp only [pureD.pureL, z01, pureD, Bool.and_self]; rfl) rfl (z0z [] func173 rfl (by decide +kernel) rfl ?_)
 show awp _ _ (Code.seq _ _) _ _
 repeat' (first | ((first | refine zqh fun K J => ?_ | refine zqs (c1) ?_); (simp (disch := omega) only [go_sem, Nat.reduceBEq, ↓reduceIte, Nat.reduceAdd, Nat.reduceLeDiff])) | refine nxt ?_ | refine zqu (by simp only [go_sem]; rfl) rfl ?_ | (refine J _ ?_; clear J K))
 exact z03 rfl
theorem pc_fits1 (u x : T) (hu : szB u = true) (hx : szB x = true) (cx : cntT x <= 1000000) (du : depT u <= 1000000) : PC prog 172 [.rptr (z0g x), .rptr (z0g u)] (.bool ((z0i x).any fun i => (z06 i u).2)) := by
 have c1 := zrx x (z80 x hx) (by omega)
 have hl := z2c x
 have c2 := z4m false (z0i x) (by unfold maxLen; omega) (g := 173) (cap := [.rptr (z0g u)]) (fun i => (z06 i u).2) (by simp only [pureD.pureL, z01, pureD, Bool.and_self]) (fun i _ => zxl u hu du i)
 refine z14 1 (by simp only [pureD.pureL, z01, pureD, Bool.and_self]) rfl (z0z [] func172 rfl (by decide +kernel) rfl ?_)
 show awp _ _ (Code.seq _ _) _ _
 repeat' (first | ((first | refine zqh fun K J => ?_ | refine zqs (c1) ?_ | refine zqs (c2) ?_); (simp (disch := omega) only [go_sem, Nat.reduceBEq, ↓reduceIte, Nat.reduceAdd])) | refine nxt ?_ | refine zqu (by simp only [go_sem]; rfl) rfl ?_ | (refine J _ ?_; clear J K))
 exact z03 rfl
theorem zoz (u p x : T) (ok : Bool) (parent : Idv) (i : Int) (hs : standsT u = true) (hx : standsT x = true) (O : x.kind ≠ 0) (hf : z06 parent u = (p, ok)) (f3 f4 f5 f6 f2 f1 : FuncId) (c3 c4 c5 c6 c2 c1 : List D) :
  z8r [(f3, c3, 4, !ok), (f4, c4, 9, !z1x p.kind x.kind), (f5, c5, 3, decide (i < 0) || decide ((p.kids.length : Int) < i)), (f6, c6, 10, z3b p.kids x.kind x.label), (f2, c2, 6, fullB u p parent x), (f1, c1, 5, (z0i x).any fun i => (z06 i u).2)] = z3e u parent i x := by
 unfold z3e
 rw [if_neg (by rw [hs, hx]; simp [O]), hf]
 cases ok
 ·rw [if_pos rfl]; rfl
 rw [if_neg (by simp), Bool.not_true, z4l]
 cases hn : z1x p.kind x.kind
 ·rw [if_pos rfl]; rfl
 rw [if_neg (by simp), Bool.not_true, z4l]
 by_cases hi : i < 0 \/ (p.kids.length : Int) < i
 ·rw [if_pos hi, show (decide (i < 0) || decide ((p.kids.length : Int) < i)) = true from by simpa using hi]; rfl
 rw [if_neg hi, show (decide (i < 0) || decide ((p.kids.length : Int) < i)) = false from by simpa using hi, z4l]
 cases ht : z3b p.kids x.kind x.label
 ·rw [if_neg (by simp), z4l]
  unfold fullB
  by_cases hfu : 64 <= p.kids.length \/ 8 < (z7g parent u).length + 1 + depT x \/ 1024 < cntT u + cntT x
  ·rw [if_pos hfu, decide_eq_true hfu]; rfl
  ·rw [if_neg hfu, decide_eq_false hfu, z4l]
   cases ha : (z0i x).any fun i => (z06 i u).2
   ·rw [if_neg (by simp)]; rfl
   ·rw [if_pos rfl]; rfl
 ·rw [if_pos rfl]; rfl
theorem pc_fits (u x : T) (hu : szB u = true) (hx : szB x = true) (cu : cntT u <= 1000000) (cx : cntT x <= 1000000) (du : depT u <= 1000000) (dx : depT x <= 1000000) (parent : Idv) (i : Int) :
  PC prog 125 [z0g u, z1a parent, .int .i64 i, z0g x] (.int .i64 (z3e u parent i x)) := by
 have c1 := z8s u hu (by omega) (by omega)
 have c2 := z8s x hx (by omega) (by omega)
 have c3 := z7i u (z8l u hu) (by omega) parent
 have hf := z4p parent u hu
 generalize hfe : z06 parent u = q at *
 obtain ⟨p, ok⟩ := q
 have c4 := zbc [(175, [.rptr (.bool ok)], 4, !ok), (176, [.rptr (z0g p), .rptr (z0g x)], 9, !z1x p.kind x.kind), (177, [.rptr (.int .i64 i), .rptr (z0g p)], 3, decide (i < 0) || decide ((p.kids.length : Int) < i)),
   (178, [.rptr (z0g p), .rptr (z0g x)], 10, z3b p.kids x.kind x.label), (174, [.rptr (z0g p), .rptr (z0g u), .rptr (z1a parent), .rptr (z0g x)], 6, fullB u p parent x), (172, [.rptr (z0g x), .rptr (z0g u)], 5, (z0i x).any fun i => (z06 i u).2)]
  (by simp) (by
   intro c hc
   simp only [List.mem_cons, List.not_mem_nil, or_false] at hc
   rcases hc with rfl | rfl | rfl | rfl | rfl | rfl
   ·exact ⟨rfl, pc_fits3 ok⟩
   ·exact ⟨by simp only [pureD.pureL, z01, pureD, Bool.and_self], pc_fits4 p x⟩
   ·exact ⟨by simp only [pureD.pureL, z01, pureD, Bool.and_self], pc_fits5 p i⟩
   ·exact ⟨by simp only [pureD.pureL, z01, pureD, Bool.and_self], pc_fits6 p x hf⟩
   ·exact ⟨by simp only [pureD.pureL, z01, pureD, Bool.and_self]; rfl, pc_fits2 u p x hu hx cu cx du dx parent⟩
   ·exact ⟨by simp only [pureD.pureL, z01, pureD, Bool.and_self], pc_fits1 u x hu hx cx du⟩)
 refine z14 1 (by simp only [pureD.pureL, z01, pureD, Bool.and_self]; rfl) rfl (z0z [] func125 rfl (by decide +kernel) rfl ?_)
 show awp _ _ (Code.seq _ _) _ _
 by_cases hw : standsT u = false \/ standsT x = false \/ x.kind = 0
 ·rw [show z3e u parent i x = 1 from if_pos hw]
  rcases hw with h | h | h
  ·rw [h] at c1
   repeat' (first | refine nxt ?_ | ((first | refine zqh fun K J => ?_ | refine zqs (c1) ?_); (simp (disch := omega) only [go_sem, Nat.reduceBEq, ↓reduceIte, Nat.reduceAdd, Nat.reduceLeDiff])) | (refine zqd _ rfl ?_ ?_ <;> intro hc <;> (first | (cases hc; done) | ((try simp only [] at hc); (try omega)))) | refine zqu (by simp only [go_sem]; rfl) rfl ?_ | (refine J _ ?_; clear J K))
   exact z1k rfl
  ·rw [h] at c2
   repeat' (first | refine nxt ?_ | ((first | refine zqh fun K J => ?_ | refine zqs (c1) ?_ | refine zqs (c2) ?_); (simp (disch := omega) only [go_sem, Nat.reduceBEq, ↓reduceIte, Nat.reduceAdd, Nat.reduceLeDiff])) | (refine zqd _ rfl ?_ ?_ <;> intro hc <;> (first | (cases hc; done) | ((try simp only [] at hc); (try omega)))) | refine zqu (by simp only [go_sem]; rfl) rfl ?_ | (refine J _ ?_; clear J K) | (refine zqf (fun hb => ?_) (fun hb => ?_) <;> (have hb2 := hb; try simp only [z07] at hb2) <;> ((have F : (_ : Bool) = _ := hb2); (simp (disch := omega) only [go_sem, Nat.reduceBEq, ↓reduceIte, Nat.reduceAdd, Nat.reduceLeDiff, F]); clear hb F; (try omega))))
   all_goals exact z1k rfl
  ·have w3d : decide (x.kind = 0) = true := decide_eq_true h
   repeat' (first | refine nxt ?_ | ((first | refine zqh fun K J => ?_ | refine zqs (c1) ?_ | refine zqs (c2) ?_); (simp (disch := omega) only [go_sem, Nat.reduceBEq, ↓reduceIte, Nat.reduceAdd, Nat.reduceLeDiff])) | (refine zqd _ rfl ?_ ?_ <;> intro hc <;> (first | (cases hc; done) | ((try simp only [] at hc); (try omega)))) | refine zqu (by simp only [go_sem]; rfl) rfl ?_ | (refine J _ ?_; clear J K) | (refine zqf (fun hb => ?_) (fun hb => ?_) <;> (have hb2 := hb; try simp only [z07] at hb2) <;> ((have F : (_ : Bool) = _ := hb2); (simp (disch := omega) only [go_sem, Nat.reduceBEq, ↓reduceIte, reduceCtorEq, Nat.reduceAdd, Nat.reduceLeDiff, F, w3d]); clear hb F; (try omega))))
   all_goals exact z1k rfl
 ·simp only [not_or, Bool.not_eq_false] at hw
  obtain ⟨w1, w2, w3⟩ := hw
  rw [w1] at c1
  rw [w2] at c2
  rw [zoz u p x ok parent i w1 w2 w3 hfe] at c4
  have w3d : decide (x.kind = 0) = false := decide_eq_false w3
  repeat' (first | refine nxt ?_ | ((first | refine zqh fun K J => ?_ | refine zqs (c1) ?_ | refine zqs (c2) ?_ | refine zqs (c3) ?_); (simp (disch := omega) only [go_sem, Nat.reduceBEq, ↓reduceIte, reduceCtorEq, Nat.reduceAdd, Nat.reduceMul, Nat.reduceLeDiff, Nat.reduceLT, w3d])) | (refine zqd _ rfl ?_ ?_ <;> intro hc <;> (first | (cases hc; done) | ((try simp only [] at hc); (try omega)))) | (refine J _ ?_; clear J K))
  refine z0w (PC.borrow c4 rfl 6 (z00 (z37 5 rfl (z00 (z0v _ 2 rfl (z00 (z1d (e := 4) 2 ?_ zfs (z02 1 rfl)) z0d)) (z00 (z0v _ 2 rfl (z00 (z05 (e := 27) 1 ?_ z0j (z04 _)) (z00 (z05 (e := 27) 1 ?_ z0j (z04 _)) z0d))) (z00 (z0v _ 2 rfl (z00 (z1d (e := 3) 2 ?_ z40 (z02 1 rfl)) (z00 (z05 (e := 27) 1 ?_ z0j (z04 _)) z0d))) (z00 (z0v _ 2 rfl (z00 (z05 (e := 27) 1 ?_ z0j (z04 _)) (z00 (z05 (e := 27) 1 ?_ z0j (z04 _)) z0d))) (z00 (z0v _ 2 rfl (z00 (z05 (e := 27) 1 ?_ z0j (z04 _)) (z00 (z05 (e := 27) 1 ?_ z0j (z04 _)) (z00 (z05 (e := 23) 1 ?_ z1o rfl) (z00 (z05 (e := 27) 1 ?_ z0j (z04 _)) z0d))))) (z00 (z0v _ 2 rfl (z00 (z05 (e := 27) 1 ?_ z0j (z04 _)) (z00 (z05 (e := 27) 1 ?_ z0j (z04 _)) z0d))) z0d))))))) z0d)) ?_
  all_goals try (focus ((simp (disch := omega) only [go_sem, Nat.reduceBEq, z0b]); done))
  (try (simp (disch := omega) only [go_sem, Nat.reduceBEq])); repeat' (first | refine nxt ?_ | refine zqu (by simp only [go_sem]; rfl) rfl ?_ | (refine J _ ?_; clear J K))
  exact z1k rfl
theorem zxm (u x : T) (hu : szB u = true) (hx : szB x = true) (cu : cntT u <= 1000000) (cx : cntT x <= 1000000) (du : depT u <= 1000000) (dx : depT x <= 1000000) (parent : Idv) (i : Int) :
  PC prog 87 [z0g u, z1a parent, .int .i64 i, z0g x] (.tup [z0g (if z3e u parent i x ≠ 0 then T.zero else z1g parent (z7r i.toNat x) u), .int .i64 (z3e u parent i x)]) := by
 have c1 := pc_fits u x hu hx cu cx du dx parent i
 refine z14 3 (by simp only [pureD.pureL, z01, pureD, Bool.and_self]; rfl) (by simp only [pureD.pureL, z01, pureD, Bool.and_self]) (z0z [3000020, 3000021, 3000023, 5000024, 5000025] func87 rfl (by decide +kernel) rfl ?_)
 show awp _ _ (Code.seq _ _) _ _
 rw [show Tryz.f87.results.toList = [.cell 8 27, .tmp 9] from rfl]
 by_cases hw : z3e u parent i x = 0
 ·obtain ⟨hr, hm, n, rfl, hn⟩ := zc7 hw
  have c2 := pc_put n x
  have c3 := zg3 u hu parent (z7r n x) (g := 179) (cap := [.rptr (.int .i64 n), .rptr (z0g x)]) (by simp only [pureD.pureL, z01, pureD, Bool.and_self]) (fun q hq hid => zvy n x hx q (zaw u hu q hq) (hn q hq hid))
  rw [(show (atR parent (z7r n x) u).1 = z1g parent (z7r n x) u from by rw [zh2 (z7r n x) ((z24 u).1 hr.1).2.2.2.1 hm])] at c3
  rw [hw] at c1 ⊢
  rw [if_neg (fun h => h rfl), Int.toNat_natCast]
  repeat' (first | refine nxt ?_ | ((first | refine zqh fun K J => ?_ | refine zqe (by decide +kernel) fun K J => ?_ | refine zqs (c1) ?_ | refine zqt (c2) ?_ | refine zqt (c3) ?_); (simp (disch := omega) only [go_sem, Nat.reduceBEq, Nat.reduceEqDiff, ↓reduceIte, Nat.reduceAdd, Nat.reduceLeDiff])) | (refine zqd _ rfl ?_ ?_ <;> intro hc <;> (first | (cases hc; done) | ((try simp only [] at hc); (try omega)))) | refine zqu (by (simp (disch := omega) only [go_sem, Nat.reduceBEq, ↓reduceIte, Nat.reduceLeDiff]); rfl) rfl ?_ | (refine J _ ?_; clear J K))
  refine z08 ?_ (Le.refl _)
  simp only [pureD, pureD.pureL, z04, Bool.and_self]
 ·rw [if_pos hw]
  repeat' (first | refine nxt ?_ | ((first | refine zqh fun K J => ?_ | refine zqs (c1) ?_); (simp (disch := omega) only [go_sem, Nat.reduceBEq, ↓reduceIte, Nat.reduceAdd, Nat.reduceLeDiff])) | (refine zqd _ rfl ?_ ?_ <;> intro hc <;> (((try simp only [z07] at hc); (try omega)))) | refine zqu (by (simp (disch := omega) only [go_sem, Nat.reduceBEq, ↓reduceIte, Nat.reduceAdd, Nat.reduceLeDiff]); rfl) rfl ?_ | (refine J _ ?_; clear J K))
  exact z08 rfl (Le.tup ⟨z0t, Le.refl _, trivial⟩)
end
section
open Abs Facts Tr
namespace Tr
theorem zia {u x : T} {parent : Idv} {n : Nat} (h1 : standsT u = true) (h2 : standsT x = true) (h3 : x.kind ≠ 0) (h4 : parent ∈ z0i u) (h5 : z1x (z06 parent u).1.kind x.kind = true) (h6 : n <= (z06 parent u).1.kids.length)
  (h7 : z3b (z06 parent u).1.kids x.kind x.label = false) (h8 : (z06 parent u).1.kids.length < 64) (h9 : (z7g parent u).length + 1 + depT x <= 8) (h10 : cntT u + cntT x <= 1024) (h11 : ∀ i ∈ z0i x, i ∉ z0i u) : z3e u parent n x = 0 := by
 unfold z3e
 rw [if_neg (by rw [h1, h2]; simp [h3]), if_neg (by rw [z33, decide_eq_true h4]; simp), if_neg (by rw [h5]; simp), if_neg (by omega), if_neg (by rw [h7]; simp), if_neg (by omega), if_neg]
 rw [List.any_eq_true]
 rintro ⟨i, hi, hf⟩
 rw [z33, decide_eq_true_eq] at hf
 exact h11 i hi hf
theorem zlh {C : Ctx} {q : T} {id : Idv} (hq : q.id = id) (h : id ∉ z7b C) : (z7g id (z2r C q)).length = lenC C := by
 rw [zq9 (hq ▸ z2y q) C h, zlg hq, List.nil_append, zlp]
theorem z1m {t : T} (h : standsT t = true) : (z0i t).Nodup := ((z24 t).1 h).2.2.2.1
theorem zli {u x : T} {parent : Idv} {n : Nat} (h : z3e u parent n x = 0) : ∃ (C : Ctx) (q : T) (l r : List T), u = z2r C (q.setKids (l ++ r)) /\ l.length = n /\ q.id = parent /\ z1g parent (z7r n x) u = z2r C (q.setKids (l ++ x :: r)) /\
  standsT (z1g parent (z7r n x) u) = true /\ z0o x.id (z1g parent (z7r n x) u) = u /\ z06 x.id (z1g parent (z7r n x) u) = (x, true) /\ z5a x.id (z1g parent (z7r n x) u) = (parent, (n : Int), true) /\ ¬ (z1g parent (z7r n x) u).id = x.id /\
  (atR parent (z7r n x) u).1 = z1g parent (z7r n x) u /\ (∀ i ∈ z0i x, i ∉ z0i u) /\ cntT (z1g parent (z7r n x) u) = cntT u + cntT x := by
 obtain ⟨⟨h1, h2, h3, h4, h5, h7, h8, h9, h10, h11⟩, hm, n', hn, hle⟩ := zc7 h
 obtain rfl : n = n' := by omega
 have hdis : ∀ i ∈ z0i x, i ∉ z0i u := fun i hi hm => by
  have := List.any_eq_false.1 h11 i hi
  rw [z33, decide_eq_true hm] at this
  exact this rfl
 have hnd := z1m h1
 obtain ⟨C, e, hq, hpre, _⟩ := focus parent u hm
 have hqn := zc6 h4
 have O := hle _ hqn hq
 generalize hq0 : (z06 parent u).1 = q at *
 have e2 : q = q.setKids (q.kids.take n ++ q.kids.drop n) := by rw [List.take_append_drop, z7w]
 generalize hl : q.kids.take n = l at *
 generalize hr : q.kids.drop n = r at *
 have hln : l.length = n := by rw [<- hl, List.length_take]; omega
 have hkr : q.kids = l ++ r := by rw [<- hl, <- hr, List.take_append_drop]
 have hue : u = z2r C (q.setKids (l ++ r)) := e.trans (congrArg (z2r C) e2)
 have hxu := hdis x.id (z2y x)
 have hmx : x.id ∈ z0i (q.setKids (l ++ x :: r)) := by rw [z34]; exact List.mem_cons_of_mem _ (zg4.2 (.inr (.inl (z2y x))))
 rw [hue, z2v, z34, List.flatMap_append] at hxu
 simp only [List.mem_append, List.mem_cons, not_or] at hxu
 obtain ⟨k1, ⟨k2, k3, k4⟩, k5⟩ := hxu
 have hpost : parent ∉ z44 C := (z3m (x := q) (by rw [<- e]; exact hnd) (hq ▸ z2y q)).2
 have hed : z1g parent (z7r n x) u = z2r C (q.setKids (l ++ x :: r)) := by
  rw [e, z68 (z7r n x) hq C hpre hpost]
  rw [e2, <- hln, zrn]
  rfl
 have hst : standsT (z2r C (q.setKids (l ++ x :: r))) = true := by
  refine zu0 (by rw [<- hue]; exact h1) h2 h3 h5 (by rw [<- hkr]; exact h7) (by rw [<- hkr]; exact h8) ?_ (by rw [<- hue]; exact h10) (by rw [<- hue]; exact hdis)
  have := zlh hq hpre
  rw [<- e] at this
  omega
 rw [hed]
 refine ⟨C, q, l, r, hue, hln, hq, rfl, hst, ?_, ?_, ?_, ?_, ?_, hdis, ?_⟩
 ·rw [zd1 (fun e => k2 e.symm) rfl k3 k4 C k1 k5, hue]
 ·rw [za3 hmx C k1, zju (fun e => k2 e.symm) k3 (z2y x), z3g rfl]
 ·rw [zjv hmx (fun e => k2 e.symm) C k1, zq8 (fun e => k2 e.symm) k3 rfl, hq, hln]
 ·intro hid
  cases C with
  | hole => exact k2 hid.symm
  | node t a c b => exact (z50 k1).1 hid
 ·rw [zh2 (z7r n x) hnd hm, hed]
 ·rw [hue, z60, z60, zkl]; omega
theorem zfz {u : T} {id : Idv} (hs : standsT u = true) (h0 : ¬ u.id = id) (hm : id ∈ z0i u) : ∃ (under : Idv) (n : Nat) (x : T), z5a id u = (under, (n : Int), true) /\ z06 id u = (x, true) /\ x.id = id /\ standsT (z0o id u) = true /\ standsT x = true /\ x.kind ≠ 0 /\
  z3e (z0o id u) under n x = 0 /\ z1g under (z7r n x) (z0o id u) = u /\ (∀ i ∈ z0i x, i ∉ z0i (z0o id u)) /\ under ∈ z0i (z0o id u) /\ cntT (z0o id u) + cntT x = cntT u /\ (∀ i ∈ z0i u, i ∈ z0i x \/ i ∈ z0i (z0o id u)) := by
 obtain ⟨C, q, l, x, r, e, hx, hq, n1, n2, hf, hp⟩ := zqw h0 hm
 have hnd := z1m hs
 subst e
 have hxm : id ∈ z0i (q.setKids (l ++ x :: r)) := by rw [z34]; exact List.mem_cons_of_mem _ (zg4.2 (.inr (.inl (hx ▸ z2y x))))
 obtain ⟨k1, k2⟩ := z3m hnd hxm
 have ns := (zh1 (zeb hnd)).1 id (hx ▸ z2y x)
 have hw := zd1 hq hx n2 ns.2.2 C k1 k2
 obtain ⟨d1, d2, d3, d4, d5, d6, d7, d8, d9⟩ := zu1 hs
 rw [hw]
 have hnd2 := z1m d1
 have hqs : q.id ∈ z0i (q.setKids (l ++ r)) := by rw [z34]; exact List.mem_cons_self
 obtain ⟨m1, m2⟩ := z3m hnd2 hqs
 have hfq : z06 q.id (z2r C (q.setKids (l ++ r))) = (q.setKids (l ++ r), true) := by rw [za3 hqs C m1]; exact z3g rfl
 refine ⟨q.id, l.length, x, hp, hf, hx, d1, d2, d3, ?_, ?_, d9, zb2 C hqs, ?_, fun i hi => ?_⟩
 ·refine zia d1 d2 d3 (zb2 C hqs) (by rw [hfq]; exact d4) ?_ (by rw [hfq]; exact d5) (by rw [hfq]; exact d6) ?_ d8 d9
  ·rw [hfq]; show l.length <= (l ++ r).length; simp
  ·rw [zlh (id := q.id) (q := q.setKids (l ++ r)) rfl m1]; exact d7
 ·rw [z68 (id := q.id) (z7r l.length x) (q := q.setKids (l ++ r)) rfl C m1 m2, zrn]
 ·rw [z60, z60, zkl]; omega
 ·rw [z2v, z34, List.flatMap_append, List.flatMap_cons] at hi
  rw [z2v, z34, List.flatMap_append]
  simp only [List.mem_append, List.mem_cons] at hi ⊢
  rcases hi with h | (h | h | h | h) | h
  ·exact .inr (.inl h)
  ·exact .inr (.inr (.inl (.inl h)))
  ·exact .inr (.inr (.inl (.inr (.inl h))))
  ·exact .inl h
  ·exact .inr (.inr (.inl (.inr (.inr h))))
  ·exact .inr (.inr (.inr h))
theorem zq2 {id : Idv} {t : T} (h : id ∉ z0i t) : z0o id t = t := zxr t fun k O hm => h (by rw [z28]; exact List.mem_cons_of_mem _ (List.mem_flatMap.2 ⟨k, O, hm⟩))
theorem z90 (id : Idv) (t : T) : (z0o id t).id = t.id /\ (z0o id t).kind = t.kind /\ (z0o id t).label = t.label /\ (z0o id t).head = t.head /\ (z0o id t).words = t.words := by
 rw [z56]; exact ⟨rfl, rfl, rfl, rfl, rfl⟩
theorem ids_wipe (id : Idv) : ∀ t : T, ∀ i ∈ z0i (z0o id t), i ∈ z0i t := by
 refine z4x fun t ih i hi => ?_
 rw [z56, z34, List.mem_cons, List.mem_flatMap] at hi
 rw [z28, List.mem_cons, List.mem_flatMap]
 rcases hi with h | ⟨k, O, h⟩
 ·exact .inl h
 ·obtain ⟨k', hk', rfl⟩ := List.mem_map.1 O
  exact .inr ⟨k', (List.mem_filter.1 hk').1, ih k' (List.mem_filter.1 hk').1 i h⟩
theorem find_sub {k : Idv} {u : T} : ∀ i ∈ z0i (z06 k u).1, (z06 k u).2 = true -> i ∈ z0i u := fun i hi hf => by
 have hm : k ∈ z0i u := by rw [z33, decide_eq_true_eq] at hf; exact hf
 obtain ⟨C, e, _, _, _⟩ := focus k u hm
 rw [e]
 exact zb2 C hi
theorem zq3 {id : Idv} : ∀ u : T, depT (z0o id u) <= depT u := by
 have key : ∀ (l : List T) (g : T -> T) (p : T -> Bool), (∀ k ∈ l, depT (g k) <= depT k) -> zel (((l.filter p).map g).map depT) <= zel (l.map depT) := by
  intro l g p h
  induction l with
  | nil => simp
  | cons k l ih =>
   have h1 := h k (by simp)
   have h2 := ih fun k O => h k (List.mem_cons_of_mem _ O)
   rw [List.filter_cons, List.map_cons, zcf]
   split
   ·rw [List.map_cons, List.map_cons, zcf]; omega
   ·omega
 refine z4x fun u ih => ?_
 rw [z56, z4r, z4r u]
 exact key u.kids (z0o id) (z4w id) ih
theorem zq4 (id : Idv) (u : T) : depT (z06 id u).1 <= depT u := by
 by_cases h : id ∈ z0i u
 ·obtain ⟨C, e, _⟩ := focus id u h
  conv => rhs; rw [e]
  rw [z93]; omega
 ·rw [zg5 h, show depT T.zero = 0 from by decide +kernel]; omega
theorem zvl {id k : Idv} : ∀ u : T, (z0i u).Nodup -> ¬ u.id = id -> k ∈ z0i u -> (∀ y, z06 id u = (y, true) -> k ∉ z0i y) -> z06 k (z0o id u) = (z0o id (z06 k u).1, true) := by
 refine z4x fun u ih hn h0 O hy => ?_
 by_cases hid : id ∉ z0i u
 ·rw [zq2 hid]
  have hf : (z06 k u).2 = true := by rw [z33, decide_eq_true O]
  have := zq2 (id := id) (t := (z06 k u).1) fun hm => hid (find_sub id hm hf)
  rw [this, <- hf]
 rw [Classical.not_not] at hid
 by_cases hku : u.id = k
 ·rw [z3g hku]
  exact z3g (by rw [(z90 id u).1]; exact hku)
 ·obtain ⟨i, hi, h1, h2, h3⟩ := zmn hku (zae.2 O)
  have hkm := zae.1 h2
  rw [z5n h3 h2]
  obtain ⟨g1, g2, g3⟩ := ze6 hn
  have hki := List.getElem_mem hi
  have hkeep : ¬ u.kids[i].id = id := fun e => by
   refine hy u.kids[i] ?_ hkm
   have hw : z2i id u.kids[i] = [u.kids[i]] := z8i e
   have hne : z2i id u.kids[i] ≠ [] := by rw [hw]; simp
   rw [z5n (z6m h0 hi (fun j hj h => (z9e id _).2 (g3 i j hi h (by omega) id (e ▸ z2y _))) hne) hne]
   exact z3g e
  have hin := ih _ hki (g2 _ hki) hkeep hkm (fun y hf => hy y (by
   have hne : z2i id u.kids[i] ≠ [] := zay.1 (by rw [hf])
   rw [z5n (z6m h0 hi (fun j hj h => (z9e id _).2 (g3 i j hi h (by omega) id (zae.1 hne))) hne) hne]
   exact hf))
  have hsp : u.kids = u.kids.take i ++ u.kids[i] :: u.kids.drop (i + 1) := by rw [<- List.drop_eq_getElem_cons hi, List.take_append_drop]
  have hwk : k ∈ z0i (z0o id u.kids[i]) := by
   have : (z06 k (z0o id u.kids[i])).2 = true := by rw [hin]
   rw [z33, decide_eq_true_eq] at this; exact this
  rw [z56]
  have e : (u.kids.filter (z4w id)).map (z0o id) = ((u.kids.take i).filter (z4w id)).map (z0o id) ++ z0o id u.kids[i] :: ((u.kids.drop (i + 1)).filter (z4w id)).map (z0o id) := by
   conv => lhs; rw [hsp]
   rw [List.filter_append, List.filter_cons, if_pos (zh0 hkeep), List.map_append, List.map_cons]
  rw [e, zju hku ?_ hwk, hin]
  intro hm
  obtain ⟨y, hym, hyk⟩ := List.mem_flatMap.1 hm
  obtain ⟨y', hy', rfl⟩ := List.mem_map.1 hym
  have hmem := (List.mem_filter.1 hy').1
  obtain ⟨j, hj, rfl⟩ := List.getElem_of_mem hmem
  rw [List.length_take] at hj
  have := ids_wipe id _ k hyk
  rw [List.getElem_take] at this
  exact g3 i j hi (by omega) (by omega) k hkm this
end Tr
end
section
open Abs Facts Tr
attribute [local irreducible] awp
theorem zsg (u : T) (hu : szB u = true) (cu : cntT u <= 1000000) (du : depT u <= 1000000) : PC prog 127 [.rptr (z0g u)] (.bool (!standsT u)) := by
 have c1 := z8s u hu (by omega) (by omega)
 refine z14 1 (by simp only [pureD.pureL, z01, pureD, Bool.and_self]) rfl (z0z [] func127 rfl (by decide +kernel) rfl ?_)
 show awp _ _ (Code.seq _ _) _ _
 repeat' (first | ((first | refine zqh fun K J => ?_ | refine zqs (c1) ?_); (simp (disch := omega) only [go_sem, Nat.reduceBEq, ↓reduceIte, Nat.reduceAdd])) | refine nxt ?_ | refine zqu (by simp only [go_sem]; rfl) rfl ?_ | (refine J _ ?_; clear J K))
 exact z03 rfl
theorem zsh (u : T) (hu : szB u = true) (cu : cntT u <= 1000000) (du : depT u <= 1000000) (id : Idv) : PC prog 128 [.rptr (z0g u), .rptr (z1a id)] (.bool (!(z06 id u).2)) := by
 have c1 := zmu u (z8l u hu) (by omega) id
 refine z14 1 (by simp only [pureD.pureL, z01, pureD]; rfl) rfl (z0z [] func128 rfl (by decide +kernel) rfl ?_)
 show awp _ _ (Code.seq _ _) _ _
 repeat' (first | ((first | refine zqh fun K J => ?_ | refine zqs (c1) ?_); (simp (disch := omega) only [go_sem, Nat.reduceBEq, ↓reduceIte, Nat.reduceAdd])) | refine nxt ?_ | refine zqu (by simp only [go_sem]; rfl) rfl ?_ | (refine J _ ?_; clear J K))
 exact z03 rfl
theorem zsi (u : T) (id : Idv) : PC prog 130 [.rptr (z0g u), .rptr (z1a id)] (.bool (decide (u.id = id))) := by
 refine z14 1 (by simp only [pureD.pureL, z01, pureD]; rfl) rfl (z0z [] func130 rfl (by decide +kernel) rfl ?_)
 show awp _ _ (Code.seq _ _) _ _
 repeat' (first | ((refine zqh fun K J => ?_); (simp (disch := omega) only [go_sem, Nat.reduceBEq, ↓reduceIte, reduceCtorEq, Nat.reduceAdd, Nat.reduceLeDiff])) | refine nxt ?_ | refine zqu (by simp only [go_sem]; rfl) rfl ?_ | (refine J _ ?_; clear J K))
 exact z03 rfl
theorem zsj (u : T) (id : Idv) (f1 f2 f3 : FuncId) (c1 c2 c3 : List D) : z8r [(f1, c1, 1, !standsT u), (f2, c2, 4, !(z06 id u).2), (f3, c3, 9, decide (u.id = id))] = z5m u id := by
 unfold z5m
 cases h1 : standsT u
 ·rw [if_pos rfl]; rfl
 rw [if_neg (by simp), Bool.not_true, z4l]
 cases h2 : (z06 id u).2
 ·rw [if_pos rfl]; rfl
 rw [if_neg (by simp), Bool.not_true, z4l]
 by_cases h3 : u.id = id
 ·rw [if_pos h3, decide_eq_true h3]; rfl
 ·rw [if_neg h3, decide_eq_false h3]; rfl
theorem zuy {u : T} {id : Idv} (h : z5m u id = 0) : standsT u = true /\ id ∈ z0i u /\ ¬ u.id = id := by
 unfold z5m at h
 split at h
 ·cases h
 rename_i h1
 split at h
 ·cases h
 rename_i h2
 split at h
 ·cases h
 rename_i h3
 rw [Bool.not_eq_false] at h1 h2
 rw [z33, decide_eq_true_eq] at h2
 exact ⟨h1, h2, h3⟩
theorem zfr (u : T) (hu : szB u = true) (du : depT u <= 1000000) (id : Idv) (hs : standsT u = true) (hm : id ∈ z0i u) (h0 : ¬ u.id = id) : PC prog 131 [z0g u, z1a id] (z0g (z0o id u)) := by
 obtain ⟨i, hi, _, hw, q, hq, O, hqn⟩ := at_wipe (z1m hs) h0 hm
 have h := zsy u hu (by omega) id i hi (fun q' hq' hid => by
  have := z8h (z1m hs) hq' hid
  rw [this] at hq
  simp only [Prod.mk.injEq, and_true] at hq
  rw [hq]; exact O)
 rw [hw] at h; exact h
theorem zuz (u : T) (hu : szB u = true) (cu : cntT u <= 1000000) (du : depT u <= 1000000) (id : Idv) :
  PC prog 89 [z0g u, z1a id] (.tup [z0g (if z5m u id = 0 then z0o id u else T.zero), z0g (if z5m u id = 0 then (z06 id u).1 else T.zero), .int .i64 (z5m u id)]) := by
 have c3 := z7i u (z8l u hu) (by omega) id
 have c4 := zbc [(127, [.rptr (z0g u)], 1, !standsT u), (128, [.rptr (z0g u), .rptr (z1a id)], 4, !(z06 id u).2), (130, [.rptr (z0g u), .rptr (z1a id)], 9, decide (u.id = id))]
  (by simp) (by
   intro c hc
   simp only [List.mem_cons, List.not_mem_nil, or_false] at hc
   rcases hc with rfl | rfl | rfl
   ·exact ⟨by simp only [pureD.pureL, z01, pureD, Bool.and_self], zsg u hu cu du⟩
   ·exact ⟨by simp only [pureD.pureL, z01, pureD]; rfl, zsh u hu cu du id⟩
   ·exact ⟨by simp only [pureD.pureL, z01, pureD]; rfl, zsi u id⟩)
 rw [zsj] at c4
 refine z14 3 (by simp only [pureD.pureL, z01]; rfl) (by simp only [pureD.pureL, z01, pureD, Bool.and_self]) (z0z [3000029, 3000030, 5000031, 5000033, 600032, 900004, 600004, 900002, 600005, 900003] func89 rfl (by decide +kernel) rfl ?_)
 show awp _ _ (Code.seq _ _) _ _
 rw [show Tryz.f89.results.toList = [.cell 4 27, .cell 5 27, .tmp 6] from rfl]
 by_cases ht : z5m u id = 0
 ·obtain ⟨h1, h2, h3⟩ := zuy ht
  rw [ht] at c4
  rw [ht, if_pos rfl, if_pos rfl]
  have c5 := zfr u hu du id h1 h2 h3
  have c6 := ze9 (z06 id u).1 (z4p id u hu)
  repeat' (first | ((refine zqh fun K J => ?_); (simp (disch := omega) only [go_sem, Nat.reduceBEq, ↓reduceIte, reduceCtorEq, Nat.reduceAdd, Nat.reduceMul, Nat.reduceLeDiff])) | (refine J _ ?_; clear J K))
  refine z0w (PC.borrow c4 rfl 6 (z00 (z37 5 rfl (z00 (z0v _ 2 rfl (z00 (z05 (e := 27) 1 ?_ z0j (z04 _)) z0d)) (z00 (z0v _ 2 rfl (z00 (z05 (e := 27) 1 ?_ z0j (z04 _)) (z00 (z05 (e := 23) 1 ?_ z1o rfl) z0d))) (z00 (z0v _ 2 rfl (z00 (z05 (e := 27) 1 ?_ z0j (z04 _)) (z00 (z05 (e := 23) 1 ?_ z1o rfl) z0d))) z0d)))) z0d)) ?_
  all_goals try (focus ((simp (disch := omega) only [go_sem, Nat.reduceBEq, z0b]); done))
  (try (simp (disch := omega) only [go_sem, Nat.reduceBEq])); repeat' (first | refine nxt ?_ | ((first | refine zqh fun K J => ?_ | refine zqe (by decide +kernel) fun K J => ?_ | refine zqs (c3) ?_ | refine zqt (c5) ?_ | refine zqt (c6) ?_); (simp (disch := omega) only [go_sem, Nat.reduceBEq, Nat.reduceEqDiff, ↓reduceIte, Nat.reduceAdd, Nat.reduceLeDiff])) | (refine zqd _ rfl ?_ ?_ <;> intro hc <;> (first | (cases hc; done) | ((try simp only [] at hc); (try omega)))) | refine zqu (by (simp (disch := omega) only [go_sem, Nat.reduceBEq, ↓reduceIte, Nat.reduceLeDiff]); rfl) rfl ?_ | (refine J _ ?_; clear J K))
  refine z08 ?_ (Le.refl _)
  simp only [pureD, pureD.pureL, z04, Bool.and_self]
 ·rw [if_neg ht, if_neg ht]
  repeat' (first | ((refine zqh fun K J => ?_); (simp (disch := omega) only [go_sem, Nat.reduceBEq, ↓reduceIte, reduceCtorEq, Nat.reduceAdd, Nat.reduceMul, Nat.reduceLeDiff])) | (refine J _ ?_; clear J K))
  refine z0w (PC.borrow c4 rfl 6 (z00 (z37 5 rfl (z00 (z0v _ 2 rfl (z00 (z05 (e := 27) 1 ?_ z0j (z04 _)) z0d)) (z00 (z0v _ 2 rfl (z00 (z05 (e := 27) 1 ?_ z0j (z04 _)) (z00 (z05 (e := 23) 1 ?_ z1o rfl) z0d))) (z00 (z0v _ 2 rfl (z00 (z05 (e := 27) 1 ?_ z0j (z04 _)) (z00 (z05 (e := 23) 1 ?_ z1o rfl) z0d))) z0d)))) z0d)) ?_
  all_goals try (focus ((simp (disch := omega) only [go_sem, Nat.reduceBEq, z0b]); done))
  (try (simp (disch := omega) only [go_sem, Nat.reduceBEq])); repeat' (first | refine nxt ?_ | ((refine zqh fun K J => ?_); (simp (disch := omega) only [go_sem, Nat.reduceBEq, ↓reduceIte, Nat.reduceAdd, Nat.reduceLeDiff])) | (refine zqd _ rfl ?_ ?_ <;> intro hc <;> (((try simp only [z07] at hc); (try omega)))) | refine zqu (by (simp (disch := omega) only [go_sem, Nat.reduceBEq, ↓reduceIte, Nat.reduceAdd, Nat.reduceLeDiff]); rfl) rfl ?_ | (refine J _ ?_; clear J K))
  exact z08 rfl (Le.tup ⟨z0t, z0t, Le.refl _, trivial⟩)
namespace Tr
def T.setLabel (t : T) (s : ByteArray) : T := .mk t.id t.kind s t.head t.words t.kids
def T.setWords (t : T) (l : List Wd) : T := .mk t.id t.kind t.label t.head l t.kids
def T.setHead (t : T) (l : List Wd) : T := .mk t.id t.kind t.label l t.words t.kids
def z5r (u : T) (id : Idv) (name : ByteArray) : Bool := decide ((z06 id u).1.label = name) || ((z5a id u).2.2 && z3b (z06 (z5a id u).1 u).1.kids (z06 id u).1.kind name)
def zby (u : T) (id : Idv) (name : ByteArray) : Int :=
 if standsT u = false \/ z4f name = false then 1 else
 if (z06 id u).2 = false then 4 else
 if (z06 id u).1.kind = 0 then 9 else
 if z5r u id name = true then 10 else 0
theorem zt9 {id : Idv} {f g : T -> T} : ∀ u : T, (∀ q ∈ z0l u, q.id = id -> f q = g q) -> z1g id f u = z1g id g u := by
 refine z4x fun u ih h => ?_
 rw [z84, z84]
 split
 ·exact h u (z1z u) ‹_›
 ·rw [List.map_congr_left fun k O => ih k O fun q hq => h q (z2n O hq)]
theorem zgk {u x : T} {id : Idv} {f : T -> T} (hn : (z0i u).Nodup) (hm : id ∈ z0i u) (hx : x = f (z06 id u).1) (hid : x.id = id) (hf : ∀ q : T, (f q).setKids q.kids = f q) : z1g x.id (fun q => x.setKids q.kids) u = z1g id f u := by
 rw [hid]
 refine zt9 u fun q hq hqi => ?_
 have := z8h hn hq hqi
 rw [hx, this]
 exact hf q
theorem zta {u : T} {id : Idv} {name : ByteArray} (hs : standsT u = true) (hm : id ∈ z0i u) (hl : ¬ (z06 id u).1.label = name) (hp : (z5a id u).2.2 = true) :
  zn4 (z06 (z5a id u).1 u).1.kids (z06 id u).1.kind name id false = z3b (z06 (z5a id u).1 u).1.kids (z06 id u).1.kind name := by
 unfold zn4 z3b
 rw [Bool.eq_iff_iff, List.any_eq_true, List.any_eq_true]
 simp only [Bool.and_eq_true, decide_eq_true_eq, Bool.false_or]
 constructor
 ·rintro ⟨k, O, h1, h2, _⟩; exact ⟨k, O, h1, h2⟩
 ·rintro ⟨k, O, h1, h2⟩
  refine ⟨k, O, h1, h2, fun e => ?_⟩
  have hkn : k ∈ z0l u := by
   by_cases hf : (z06 (z5a id u).1 u).2 = true
   ·have h3 := zc6 hf
    have : k ∈ z0l (z06 (z5a id u).1 u).1 := z2n O (z1z k)
    have sub : ∀ u x : T, x ∈ z0l u -> ∀ y ∈ z0l x, y ∈ z0l u := by
     refine fun u => z4x (p := fun u => ∀ x : T, x ∈ z0l u -> ∀ y ∈ z0l x, y ∈ z0l u) (fun u ih x hx y hy => ?_) u
     rw [z25, List.mem_cons] at hx
     rcases hx with rfl | hx
     ·exact hy
     ·obtain ⟨k, O, hxk⟩ := List.mem_flatMap.1 hx
      exact z2n O (ih k O x hxk y hy)
    exact sub u _ h3 k this
   ·rw [Bool.not_eq_true, z33, decide_eq_false_iff_not] at hf
    rw [zg5 hf] at O
    cases O
  have := z8h (z1m hs) hkn e
  rw [this] at hl
  exact hl h2
end Tr
theorem zoa (u : T) (hu : szB u = true) (cu : cntT u <= 1000000) (du : depT u <= 1000000) (x : T) (id : Idv) (name : ByteArray) : PC prog 114 [.rptr (z0g u), .rptr (z1a id), .rptr (z0g x), .rptr (.str name)] (.bool (decide (x.label = name) || ((z5a id u).2.2 && z3b (z06 (z5a id u).1 u).1.kids x.kind name))) := by
 have hp := z4p (z5a id u).1 u hu
 have c1 := znd u (z8l u hu) (by omega) id
 have c2 := z7i u (z8l u hu) (by omega) (z5a id u).1
 have c3 := zkf (z06 (z5a id u).1 u).1.kids (z9g hp).1 x.kind name
 refine z14 1 (by simp only [pureD.pureL, z01, pureD, Bool.and_self]; rfl) rfl (z0z [] func114 rfl (by decide +kernel) rfl ?_)
 show awp _ _ (Code.seq _ _) _ _
 repeat' (first | ((first | refine zqh fun K J => ?_ | refine zqs (c1) ?_ | refine zqs (c2) ?_ | refine zqs (c3) ?_); (simp (disch := omega) only [go_sem, Nat.reduceBEq, ↓reduceIte, reduceCtorEq, Nat.reduceAdd, Nat.reduceLeDiff])) | refine nxt ?_ | refine zqu (by simp only [go_sem]; rfl) rfl ?_ | (refine J _ ?_; clear J K) | (refine zqf (fun hb => ?_) (fun hb => ?_) <;> (have hb2 := hb; try simp only [z07] at hb2) <;> ((first | have F : (_ : Bool) = _ := hb2 | have F := eq_false hb2 | have F := eq_true hb2); (simp (disch := omega) only [go_sem, Nat.reduceBEq, ↓reduceIte, reduceCtorEq, Nat.reduceAdd, hb, F, z0q]); clear hb F; (try omega))))
 all_goals exact z03 (by simp [*])
theorem zob (ok : Bool) : PC prog 118 [.rptr (.bool ok)] (.bool (!ok)) := by
 refine z14 1 (by simp only [pureD.pureL, pureD, Bool.and_self]) rfl (z0z [] func118 rfl (by decide +kernel) rfl ?_)
 show awp _ _ (Code.seq _ _) _ _
 repeat' (first | ((refine zqh fun K J => ?_); (simp (disch := omega) only [go_sem, Nat.reduceBEq, ↓reduceIte, Nat.reduceAdd])) | refine nxt ?_ | refine zqu (by simp only [go_sem]; rfl) rfl ?_ | (refine J _ ?_; clear J K))
 exact z03 rfl
theorem zoc (x : T) : PC prog 119 [.rptr (z0g x)] (.bool (decide (x.kind = 0))) := by
 refine z14 1 (by simp only [pureD.pureL, z01, pureD, Bool.and_self]) rfl (z0z [] func119 rfl (by decide +kernel) rfl ?_)
 show awp _ _ (Code.seq _ _) _ _
 repeat' (first | ((refine zqh fun K J => ?_); (simp (disch := omega) only [go_sem, Nat.reduceBEq, ↓reduceIte, reduceCtorEq, Nat.reduceAdd])) | refine nxt ?_ | refine zqu (by simp only [go_sem]; rfl) rfl ?_ | (refine J _ ?_; clear J K))
 exact z03 rfl
theorem zod (q : T) (name : ByteArray) : PC prog 121 [z0g q, .rptr (.str name)] (z0g (q.setLabel name)) := by
 refine z14 1 (by simp only [pureD.pureL, z01, pureD, Bool.and_self]) (z01 _) (z0z [] func121 rfl (by decide +kernel) rfl ?_)
 show awp _ _ (Code.seq _ _) _ _
 rw [show Tryz.f121.results.toList = [.cell 3 27] from rfl]
 rw [show z0g q = .agg _ from by rw [z0g, z0k]]
 repeat' (first | ((refine zqh fun K J => ?_); (simp (disch := omega) only [go_sem, Nat.reduceBEq, ↓reduceIte, reduceCtorEq, Nat.reduceAdd, Nat.reduceLeDiff, Nat.reduceLT, List.set_cons_succ, List.set_cons_zero])) | refine nxt ?_ | refine zqu (by (simp (disch := omega) only [go_sem, Nat.reduceBEq, ↓reduceIte, Nat.reduceAdd, Nat.reduceLeDiff]); rfl) rfl ?_ | (refine J _ ?_; clear J K))
 rw [z0g, z0k]
 exact z08 (by simp only [pureD, pureD.pureL, z0h, z3l, Bool.and_self]) (Le.refl _)
theorem zwh (ok : Bool) (x : T) (b : Bool) (f1 f2 f3 : FuncId) (c1 c2 c3 : List D) : z8r [(f1, c1, 4, !ok), (f2, c2, 9, decide (x.kind = 0)), (f3, c3, 10, b)] = (if ok = false then 4 else if x.kind = 0 then 9 else if b = true then 10 else 0) := by
 cases ok
 ·rw [if_pos rfl]; rfl
 rw [if_neg (by simp), Bool.not_true, z4l]
 by_cases h : x.kind = 0
 ·rw [if_pos h, decide_eq_true h]; rfl
 rw [if_neg h, decide_eq_false h, z4l]
 cases b
 ·rw [if_neg (by simp)]; rfl
 ·rw [if_pos rfl]; rfl
theorem ztb (u : T) (hu : szB u = true) (cu : cntT u <= 1000000) (du : depT u <= 1000000) (id : Idv) (name : ByteArray) (hn : name.size <= 1000000) :
  PC prog 85 [z0g u, z1a id, .str name] (.tup [z0g (if zby u id name = 0 then z1g id (fun q => q.setLabel name) u else T.zero), .int .i64 (zby u id name)]) := by
 have c1 := z8s u hu (by omega) (by omega)
 have c2 := zdd name (by unfold maxLen; omega)
 have c3 := z7i u (z8l u hu) (by omega) id
 have c4 := zbc [(118, [.rptr (.bool (z06 id u).2)], 4, !(z06 id u).2), (119, [.rptr (z0g (z06 id u).1)], 9, decide ((z06 id u).1.kind = 0)), (114, [.rptr (z0g u), .rptr (z1a id), .rptr (z0g (z06 id u).1), .rptr (.str name)], 10, z5r u id name)]
  (by simp) (by
   intro c hc
   simp only [List.mem_cons, List.not_mem_nil, or_false] at hc
   rcases hc with rfl | rfl | rfl
   ·exact ⟨rfl, zob _⟩
   ·exact ⟨by simp only [pureD.pureL, z01, pureD, Bool.and_self], zoc _⟩
   ·exact ⟨by simp only [pureD.pureL, z01, pureD, Bool.and_self]; rfl, zoa u hu cu du _ id name⟩)
 rw [zwh] at c4
 refine z14 3 (by simp only [pureD.pureL, z01, pureD, Bool.and_self]; rfl) (by simp only [pureD.pureL, z01, pureD, Bool.and_self]) (z0z [] func85 rfl (by decide +kernel) rfl ?_)
 show awp _ _ (Code.seq _ _) _ _
 rw [show Tryz.f85.results.toList = [.cell 6 27, .tmp 7] from rfl]
 by_cases h1 : standsT u = false
 ·rw [show zby u id name = 1 from by unfold zby; rw [if_pos (.inl h1)], if_neg (by decide)]
  rw [h1] at c1
  repeat' (first | refine nxt ?_ | ((first | refine zqh fun K J => ?_ | refine zqs (c1) ?_); (simp (disch := omega) only [go_sem, Nat.reduceBEq, ↓reduceIte, Nat.reduceAdd, Nat.reduceLeDiff])) | (refine zqd _ rfl ?_ ?_ <;> intro hc <;> (first | (cases hc; done) | ((try simp only [] at hc); (try omega)))) | refine zqu (by (simp (disch := omega) only [go_sem, Nat.reduceBEq, ↓reduceIte, Nat.reduceAdd, Nat.reduceLeDiff]); rfl) rfl ?_ | (refine J _ ?_; clear J K))
  exact z08 rfl (Le.tup ⟨z0t, Le.refl _, trivial⟩)
 by_cases h2 : z4f name = false
 ·rw [show zby u id name = 1 from by unfold zby; rw [if_pos (.inr h2)], if_neg (by decide)]
  rw [Bool.not_eq_false] at h1
  rw [h1] at c1
  rw [h2] at c2
  repeat' (first | refine nxt ?_ | ((first | refine zqh fun K J => ?_ | refine zqs (c1) ?_ | refine zqs (c2) ?_); (simp (disch := omega) only [go_sem, Nat.reduceBEq, ↓reduceIte, Nat.reduceAdd, Nat.reduceLeDiff])) | (refine zqd _ rfl ?_ ?_ <;> intro hc <;> (first | (cases hc; done) | ((try simp only [] at hc); (try omega)))) | refine zqu (by (simp (disch := omega) only [go_sem, Nat.reduceBEq, ↓reduceIte, Nat.reduceAdd, Nat.reduceLeDiff]); rfl) rfl ?_ | (refine J _ ?_; clear J K))
  exact z08 rfl (Le.tup ⟨z0t, Le.refl _, trivial⟩)
 have e0 : zby u id name = (if (z06 id u).2 = false then 4 else if (z06 id u).1.kind = 0 then 9 else if z5r u id name = true then 10 else 0) := by unfold zby; rw [if_neg (by rw [not_or]; exact ⟨h1, h2⟩)]
 rw [<- e0] at c4
 rw [Bool.not_eq_false] at h1 h2
 rw [h1] at c1
 rw [h2] at c2
 by_cases hw : zby u id name = 0
 ·have hmf : (z06 id u).2 = true := by
   rw [e0] at hw
   by_cases h : (z06 id u).2 = false
   ·rw [if_pos h] at hw; cases hw
   ·simpa using h
  have hm : id ∈ z0i u := by rw [z33, decide_eq_true_eq] at hmf; exact hmf
  have c5 := zg3 u hu id (fun q => q.setLabel name) (g := 121) (cap := [.rptr (.str name)]) rfl (fun q _ _ => zod q name)
  rw [(show (atR id (fun q => q.setLabel name) u).1 = z1g id (fun q => q.setLabel name) u from by rw [zh2 _ (z1m h1) hm])] at c5
  rw [hw] at c4 ⊢
  rw [if_pos rfl]
  repeat' (first | refine nxt ?_ | ((first | refine z1j (N := 5) rfl fun K J => ?_ | refine zqs (c1) ?_ | refine zqs (c2) ?_ | refine zqs (c3) ?_); (simp (disch := omega) only [go_sem, Nat.reduceBEq, ↓reduceIte, Nat.reduceAdd, Nat.reduceLeDiff, Nat.reduceLT])) | (refine zqd _ rfl ?_ ?_ <;> intro hc <;> (first | (cases hc; done) | ((try simp only [] at hc); (try omega)))) | (refine J _ ?_; clear J K))
  refine z1f fun K J => ?_
  (simp (disch := omega) only [go_sem, Nat.reduceBEq, ↓reduceIte, reduceCtorEq, Nat.reduceAdd, Nat.reduceMul, Nat.reduceLeDiff])
  refine z0w (PC.borrow c4 rfl 6 (z00 (z37 5 rfl (z00 (z0v _ 2 rfl (z00 (z1d (e := 4) 2 ?_ zfs (z02 1 rfl)) z0d)) (z00 (z0v _ 2 rfl (z00 (z05 (e := 27) 1 ?_ z0j (z04 _)) z0d)) (z00 (z0v _ 2 rfl (z00 (z05 (e := 27) 1 ?_ z0j (z04 _)) (z00 (z05 (e := 23) 1 ?_ z1o rfl) (z00 (z05 (e := 27) 1 ?_ z0j (z04 _)) (z00 (z1d (e := 9) 2 ?_ z8x (z02 1 rfl)) z0d))))) z0d)))) z0d)) ?_
  all_goals try (focus ((simp (disch := omega) only [go_sem, Nat.reduceBEq, z0b]); done))
  (simp (disch := omega) only [go_sem, Nat.reduceBEq])
  refine J _ _ (zq7 (b := 2) (j := 5) (e := 9) (cs := [.str name]) (d := .str name) (by (simp (disch := omega) only [go_sem, Nat.reduceBEq])) (.inl rfl) rfl (by (simp (disch := omega) only [go_sem, Nat.reduceBEq]))) ?_
  clear J K
  repeat' (first | refine nxt ?_ | ((first | refine zqh fun K J => ?_ | refine zqs (c5) ?_); (simp (disch := omega) only [go_sem, Nat.reduceBEq, ↓reduceIte, Nat.reduceAdd, Nat.reduceLeDiff])) | (refine zqd _ rfl ?_ ?_ <;> intro hc <;> (first | (cases hc; done) | ((try simp only [] at hc); (try omega)))) | refine zqu (by (simp (disch := omega) only [go_sem, Nat.reduceBEq, ↓reduceIte, Nat.reduceLeDiff]); rfl) rfl ?_ | (refine J _ ?_; clear J K))
  refine z08 ?_ (Le.refl _)
  simp only [pureD, pureD.pureL, z04, Bool.and_self]
 ·rw [if_neg hw]
  repeat' (first | refine nxt ?_ | ((first | refine zqh fun K J => ?_ | refine zqs (c1) ?_ | refine zqs (c2) ?_ | refine zqs (c3) ?_); (simp (disch := omega) only [go_sem, Nat.reduceBEq, ↓reduceIte, reduceCtorEq, Nat.reduceAdd, Nat.reduceMul, Nat.reduceLeDiff, Nat.reduceLT])) | (refine zqd _ rfl ?_ ?_ <;> intro hc <;> (first | (cases hc; done) | ((try simp only [] at hc); (try omega)))) | (refine J _ ?_; clear J K))
  refine z0w (PC.borrow c4 rfl 6 (z00 (z37 5 rfl (z00 (z0v _ 2 rfl (z00 (z1d (e := 4) 2 ?_ zfs (z02 1 rfl)) z0d)) (z00 (z0v _ 2 rfl (z00 (z05 (e := 27) 1 ?_ z0j (z04 _)) z0d)) (z00 (z0v _ 2 rfl (z00 (z05 (e := 27) 1 ?_ z0j (z04 _)) (z00 (z05 (e := 23) 1 ?_ z1o rfl) (z00 (z05 (e := 27) 1 ?_ z0j (z04 _)) (z00 (z1d (e := 9) 2 ?_ z8x (z02 1 rfl)) z0d))))) z0d)))) z0d)) ?_
  all_goals try (focus ((simp (disch := omega) only [go_sem, Nat.reduceBEq, z0b]); done))
  (try (simp (disch := omega) only [go_sem, Nat.reduceBEq])); repeat' (first | refine nxt ?_ | ((refine zqh fun K J => ?_); (simp (disch := omega) only [go_sem, Nat.reduceBEq, ↓reduceIte, Nat.reduceAdd, Nat.reduceLeDiff])) | (refine zqd _ rfl ?_ ?_ <;> intro hc <;> (((try simp only [z07] at hc); (try omega)))) | refine zqu (by (simp (disch := omega) only [go_sem, Nat.reduceBEq, ↓reduceIte, Nat.reduceAdd, Nat.reduceLeDiff]); rfl) rfl ?_ | (refine J _ ?_; clear J K))
  exact z08 rfl (Le.tup ⟨z0t, Le.refl _, trivial⟩)
theorem zoe (u : T) (hu : szB u = true) (cu : cntT u <= 1000000) (du : depT u <= 1000000) (id : Idv) (name : ByteArray) (hn : name.size <= 1000000) :
  PC prog 95 [z0g u, z1a id, .str name] (.tup [z0g (if zby u id name = 0 then z1g id (fun q => q.setLabel name) u else T.zero), .int .i64 (zby u id name)]) := by
 have hp := z4p (z5a id u).1 u hu
 have c1 := z5u u hu (by omega) (by omega)
 have c2 := zrq name (by unfold maxLen; omega)
 have c3 := z49 id u hu
 have c4 := zss id u hu
 have c5 := z49 (z5a id u).1 u hu
 have c6 := zh6 (z06 (z5a id u).1 u).1.kids (z9g hp).1 (z06 id u).1.kind name id false
 refine z14 3 (by simp only [pureD.pureL, z01, pureD, Bool.and_self]; rfl) (by simp only [pureD.pureL, z01, pureD, Bool.and_self]) (z0z [] func95 rfl (by decide +kernel) rfl ?_)
 show awp _ _ (Code.seq _ _) _ _
 rw [show Tryz.f95.results.toList = [.cell 6 27, .tmp 7] from rfl]
 by_cases h1 : standsT u = false
 ·rw [show zby u id name = 1 from by unfold zby; rw [if_pos (.inl h1)], if_neg (by decide)]
  rw [h1] at c1
  repeat' (first | refine nxt ?_ | ((first | refine zqh fun K J => ?_ | refine zqs (c1) ?_); (simp (disch := omega) only [go_sem, Nat.reduceBEq, ↓reduceIte, Nat.reduceAdd, Nat.reduceLeDiff])) | (refine zqd _ rfl ?_ ?_ <;> intro hc <;> (first | (cases hc; done) | ((try simp only [] at hc); (try omega)))) | refine zqu (by (simp (disch := omega) only [go_sem, Nat.reduceBEq, ↓reduceIte, Nat.reduceAdd, Nat.reduceLeDiff]); rfl) rfl ?_ | (refine J _ ?_; clear J K))
  exact z08 rfl (Le.tup ⟨z0t, Le.refl _, trivial⟩)
 by_cases h2 : z4f name = false
 ·rw [show zby u id name = 1 from by unfold zby; rw [if_pos (.inr h2)], if_neg (by decide)]
  rw [Bool.not_eq_false] at h1
  rw [h1] at c1
  rw [h2] at c2
  repeat' (first | refine nxt ?_ | ((first | refine zqh fun K J => ?_ | refine zqs (c1) ?_ | refine zqs (c2) ?_); (simp (disch := omega) only [go_sem, Nat.reduceBEq, ↓reduceIte, Nat.reduceAdd, Nat.reduceLeDiff])) | (refine zqd _ rfl ?_ ?_ <;> intro hc <;> (first | (cases hc; done) | ((try simp only [] at hc); (try omega)))) | refine zqu (by (simp (disch := omega) only [go_sem, Nat.reduceBEq, ↓reduceIte, Nat.reduceAdd, Nat.reduceLeDiff]); rfl) rfl ?_ | (refine J _ ?_; clear J K))
  exact z08 rfl (Le.tup ⟨z0t, Le.refl _, trivial⟩)
 have e0 : zby u id name = (if (z06 id u).2 = false then 4 else if (z06 id u).1.kind = 0 then 9 else if z5r u id name = true then 10 else 0) := by unfold zby; rw [if_neg (by rw [not_or]; exact ⟨h1, h2⟩)]
 rw [Bool.not_eq_false] at h1 h2
 rw [h1] at c1
 rw [h2] at c2
 by_cases h3 : (z06 id u).2 = false
 ·rw [show zby u id name = 4 from by rw [e0, if_pos h3], if_neg (by decide)]
  rw [h3] at c3
  repeat' (first | refine nxt ?_ | ((first | refine zqh fun K J => ?_ | refine zqs (c1) ?_ | refine zqs (c2) ?_ | refine zqs (c3) ?_); (simp (disch := omega) only [go_sem, Nat.reduceBEq, ↓reduceIte, Nat.reduceAdd, Nat.reduceLeDiff])) | (refine zqd _ rfl ?_ ?_ <;> intro hc <;> (first | (cases hc; done) | ((try simp only [] at hc); (try omega)))) | refine zqu (by (simp (disch := omega) only [go_sem, Nat.reduceBEq, ↓reduceIte, Nat.reduceAdd, Nat.reduceLeDiff]); rfl) rfl ?_ | (refine J _ ?_; clear J K))
  exact z08 rfl (Le.tup ⟨z0t, Le.refl _, trivial⟩)
 rw [if_neg h3] at e0
 rw [Bool.not_eq_false] at h3
 rw [h3] at c3
 have hm : id ∈ z0i u := by rw [z33, decide_eq_true_eq] at h3; exact h3
 by_cases h4 : (z06 id u).1.kind = 0
 ·rw [show zby u id name = 9 from by rw [e0, if_pos h4], if_neg (by decide)]
  have h4d : decide ((z06 id u).1.kind = 0) = true := decide_eq_true h4
  repeat' (first | refine nxt ?_ | ((first | refine zqh fun K J => ?_ | refine zqs (c1) ?_ | refine zqs (c2) ?_ | refine zqs (c3) ?_); (simp (disch := omega) only [go_sem, Nat.reduceBEq, ↓reduceIte, reduceCtorEq, Nat.reduceAdd, Nat.reduceLeDiff, h4d])) | (refine zqd _ rfl ?_ ?_ <;> intro hc <;> (first | (cases hc; done) | ((try simp only [] at hc); (try omega)))) | refine zqu (by (simp (disch := omega) only [go_sem, Nat.reduceBEq, ↓reduceIte, Nat.reduceAdd, Nat.reduceLeDiff]); rfl) rfl ?_ | (refine J _ ?_; clear J K))
  exact z08 rfl (Le.tup ⟨z0t, Le.refl _, trivial⟩)
 rw [if_neg h4] at e0
 have h4d : decide ((z06 id u).1.kind = 0) = false := decide_eq_false h4
 by_cases h5 : (z06 id u).1.label = name
 ·rw [show zby u id name = 10 from by rw [e0, if_pos (by unfold z5r; rw [decide_eq_true h5]; rfl)], if_neg (by decide)]
  have h5d : decide ((z06 id u).1.label = name) = true := decide_eq_true h5
  repeat' (first | refine nxt ?_ | ((first | refine zqh fun K J => ?_ | refine zqs (c1) ?_ | refine zqs (c2) ?_ | refine zqs (c3) ?_); (simp (disch := omega) only [go_sem, Nat.reduceBEq, ↓reduceIte, reduceCtorEq, Nat.reduceAdd, Nat.reduceLeDiff, h4d, h5d])) | (refine zqd _ rfl ?_ ?_ <;> intro hc <;> (first | (cases hc; done) | ((try simp only [] at hc); (try omega)))) | refine zqu (by (simp (disch := omega) only [go_sem, Nat.reduceBEq, ↓reduceIte, Nat.reduceAdd, Nat.reduceLeDiff]); rfl) rfl ?_ | (refine J _ ?_; clear J K))
  exact z08 rfl (Le.tup ⟨z0t, Le.refl _, trivial⟩)
 have h5d : decide ((z06 id u).1.label = name) = false := decide_eq_false h5
 have eb : z5r u id name = ((z5a id u).2.2 && z3b (z06 (z5a id u).1 u).1.kids (z06 id u).1.kind name) := by unfold z5r; rw [h5d, Bool.false_or]
 have hfin : z5r u id name = false -> z1g ((z06 id u).1.setLabel name).id (fun q => ((z06 id u).1.setLabel name).setKids q.kids) u = z1g id (fun q => q.setLabel name) u := fun _ => by
  obtain ⟨_, _, hfi, _, _⟩ := focus id u hm
  exact zgk (f := fun q => q.setLabel name) (z1m h1) hm rfl hfi (fun q => rfl)
 have hx := z4p id u hu
 have c7 := zp8 ((z06 id u).1.setLabel name) u hu
 rw [show z0g ((z06 id u).1.setLabel name) = .agg _ from by rw [z0g, z0k]] at c7
 cases hpar : (z5a id u).2.2
 ·have e1 : z5r u id name = false := by rw [eb, hpar]; rfl
  rw [show zby u id name = 0 from by rw [e0, if_neg (by rw [e1]; simp)], if_pos rfl]
  rw [hfin e1] at c7
  rw [hpar] at c4
  rw [show z0g (z06 id u).1 = .agg _ from by rw [z0g, z0k]] at c3
  repeat' (first | refine nxt ?_ | ((first | refine zqh fun K J => ?_ | refine zqs (c1) ?_ | refine zqs (c2) ?_ | refine zqs (c3) ?_ | refine zqs (c4) ?_ | refine zqs (c7) ?_); (simp (disch := omega) only [go_sem, Nat.reduceBEq, ↓reduceIte, reduceCtorEq, Nat.reduceAdd, Nat.reduceLeDiff, Nat.reduceLT, h4d, h5d, List.set_cons_succ, List.set_cons_zero])) | (refine zqd _ rfl ?_ ?_ <;> intro hc <;> (first | (cases hc; done) | ((try simp only [] at hc); (try omega)))) | refine zqu (by (simp (disch := omega) only [go_sem, Nat.reduceBEq, ↓reduceIte, Nat.reduceLeDiff]); rfl) rfl ?_ | (refine J _ ?_; clear J K))
  refine z08 ?_ (Le.refl _)
  simp only [pureD, pureD.pureL, z04, Bool.and_self]
 ·rw [hpar] at c4 eb
  rw [Bool.true_and] at eb
  rw [zta h1 hm h5 hpar, <- eb] at c6
  cases e1 : z5r u id name
  ·rw [show zby u id name = 0 from by rw [e0, if_neg (by rw [e1]; simp)], if_pos rfl]
   rw [hfin e1] at c7
   rw [e1] at c6
   rw [show z0g (z06 id u).1 = .agg _ from by rw [z0g, z0k]] at c3
   repeat' (first | refine nxt ?_ | ((first | refine zqh fun K J => ?_ | refine zqs (c1) ?_ | refine zqs (c2) ?_ | refine zqs (c3) ?_ | refine zqs (c4) ?_ | refine zqs (c5) ?_ | refine zqs (c6) ?_ | refine zqs (c7) ?_); (simp (disch := omega) only [go_sem, Nat.reduceBEq, ↓reduceIte, reduceCtorEq, Nat.reduceAdd, Nat.reduceLeDiff, Nat.reduceLT, z0q, h4d, h5d, List.set_cons_succ, List.set_cons_zero])) | (refine zqd _ rfl ?_ ?_ <;> intro hc <;> (first | (cases hc; done) | ((try simp only [] at hc); (try omega)))) | refine zqu (by (simp (disch := omega) only [go_sem, Nat.reduceBEq, ↓reduceIte, Nat.reduceLeDiff]); rfl) rfl ?_ | (refine J _ ?_; clear J K))
   refine z08 ?_ (Le.refl _)
   simp only [pureD, pureD.pureL, z04, Bool.and_self]
  ·rw [show zby u id name = 10 from by rw [e0, if_pos e1], if_neg (by decide)]
   rw [e1] at c6
   repeat' (first | refine nxt ?_ | ((first | refine zqh fun K J => ?_ | refine zqs (c1) ?_ | refine zqs (c2) ?_ | refine zqs (c3) ?_ | refine zqs (c4) ?_ | refine zqs (c5) ?_ | refine zqs (c6) ?_); (simp (disch := omega) only [go_sem, Nat.reduceBEq, ↓reduceIte, reduceCtorEq, Nat.reduceAdd, Nat.reduceLeDiff, z0q, h4d, h5d])) | (refine zqd _ rfl ?_ ?_ <;> intro hc <;> (first | (cases hc; done) | ((try simp only [] at hc); (try omega)))) | refine zqu (by (simp (disch := omega) only [go_sem, Nat.reduceBEq, ↓reduceIte, Nat.reduceAdd, Nat.reduceLeDiff]); rfl) rfl ?_ | (refine J _ ?_; clear J K))
   exact z08 rfl (Le.tup ⟨z0t, Le.refl _, trivial⟩)
namespace Tr
def zzn (l : List Wd) : Bool := l.any fun w => !z6q w.text
def z2z (u : T) (id : Idv) (l : List Wd) : Int :=
 if standsT u = false \/ zzn l = true then 1 else
 if (z06 id u).2 = false then 4 else
 if (z06 id u).1.kind = 0 then 9 else
 if 256 < l.length then 6 else 0
theorem zki {u : T} {id : Idv} {l : List Wd} (h : z2z u id l = 0) : standsT u = true /\ id ∈ z0i u /\ zzn l = false /\ ¬ (z06 id u).1.kind = 0 /\ l.length <= 256 := by
 unfold z2z at h
 split at h
 ·cases h
 rename_i h1
 split at h
 ·cases h
 rename_i h2
 split at h
 ·cases h
 rename_i h3
 split at h
 ·cases h
 rename_i h4
 rw [not_or, Bool.not_eq_false, Bool.not_eq_true] at h1
 rw [Bool.not_eq_false, z33, decide_eq_true_eq] at h2
 exact ⟨h1.1, h2, h1.2, h3, by omega⟩
end Tr
theorem zxt (w : Wd) (hw : w.text.size <= maxLen) : PC prog 157 [z7q w] (.bool (!z6q w.text)) := by
 have c1 := ziv true [w.text] (by unfold maxLen; simp) (by intro s hs; simp at hs; subst hs; exact hw)
 rw [show zxy [w.text] = z6q w.text from by unfold zxy; simp] at c1
 refine z14 1 rfl rfl (z0z [] func157 rfl (by decide +kernel) rfl ?_)
 show awp _ _ (Code.seq _ _) _ _
 repeat' (first | ((first | refine zqh fun K J => ?_ | refine zqs (c1) ?_); (simp (disch := omega) only [go_sem, Nat.reduceBEq, ↓reduceIte, reduceCtorEq, Nat.reduceAdd, Nat.reduceLeDiff])) | refine nxt ?_ | refine zqu (by simp only [go_sem]; rfl) rfl ?_ | (refine J _ ?_; clear J K))
 exact z03 rfl
theorem zxu (u : T) (hu : szB u = true) (cu : cntT u <= 1000000) (du : depT u <= 1000000) (l : List Wd) (hl : l.length <= 1000000) (hw : ∀ w ∈ l, w.text.size <= maxLen) : PC prog 158 [.rptr (z0g u), .rptr (z0n l), .rptr (.fn 157 [])] (.bool (!standsT u || zzn l)) := by
 have c1 := z8s u hu (by omega) (by omega)
 have c2 := z6f false l (by unfold maxLen; omega) (g := 157) (cap := []) (fun w => !z6q w.text) rfl (fun w h => zxt w (hw w h))
 refine z14 1 (by simp only [pureD.pureL, z01, z0h, pureD, Bool.and_self]) rfl (z0z [] func158 rfl (by decide +kernel) rfl ?_)
 show awp _ _ (Code.seq _ _) _ _
 repeat' (first | ((first | refine zqh fun K J => ?_ | refine zqs (c1) ?_ | refine zqs (c2) ?_); (simp (disch := omega) only [go_sem, Nat.reduceBEq, ↓reduceIte, Nat.reduceAdd, z0n])) | refine nxt ?_ | refine zqu (by simp only [go_sem]; rfl) rfl ?_ | (refine J _ ?_; clear J K) | (refine zqf (fun hb => ?_) (fun hb => ?_) <;> (have hb2 := hb; try simp only [z07] at hb2) <;> ((have F : (_ : Bool) = _ := hb2); (simp (disch := omega) only [go_sem, Nat.reduceBEq, ↓reduceIte, Nat.reduceAdd, F]); clear hb F; (try omega))))
 all_goals exact z03 (by simp [hb2, zzn])
theorem zxv (ok : Bool) : PC prog 159 [.rptr (.bool ok)] (.bool (!ok)) := by
 refine z14 1 (by simp only [pureD.pureL, pureD, Bool.and_self]) rfl (z0z [] func159 rfl (by decide +kernel) rfl ?_)
 show awp _ _ (Code.seq _ _) _ _
 repeat' (first | ((refine zqh fun K J => ?_); (simp (disch := omega) only [go_sem, Nat.reduceBEq, ↓reduceIte, Nat.reduceAdd])) | refine nxt ?_ | refine zqu (by simp only [go_sem]; rfl) rfl ?_ | (refine J _ ?_; clear J K))
 exact z03 rfl
theorem zxw (x : T) : PC prog 160 [.rptr (z0g x)] (.bool (decide (x.kind = 0))) := by
 refine z14 1 (by simp only [pureD.pureL, z01, pureD, Bool.and_self]) rfl (z0z [] func160 rfl (by decide +kernel) rfl ?_)
 show awp _ _ (Code.seq _ _) _ _
 repeat' (first | ((refine zqh fun K J => ?_); (simp (disch := omega) only [go_sem, Nat.reduceBEq, ↓reduceIte, reduceCtorEq, Nat.reduceAdd])) | refine nxt ?_ | refine zqu (by simp only [go_sem]; rfl) rfl ?_ | (refine J _ ?_; clear J K))
 exact z03 rfl
theorem zxx (l : List Wd) : PC prog 161 [.rptr (z0n l)] (.bool (decide (256 < l.length))) := by
 refine z14 1 (by simp only [pureD.pureL, z0h, pureD, Bool.and_self]) rfl (z0z [] func161 rfl (by decide +kernel) rfl ?_)
 show awp _ _ (Code.seq _ _) _ _
 repeat' (first | ((refine zqh fun K J => ?_); (simp (disch := omega) only [go_sem, Nat.reduceBEq, ↓reduceIte, Nat.reduceAdd, z0n])) | refine nxt ?_ | refine zqu (by simp only [go_sem]; rfl) rfl ?_ | (refine J _ ?_; clear J K))
 exact z03 (decide_eq_decide.2 (by omega))
theorem zp1 (u : T) (id : Idv) (l : List Wd) (f1 f2 f3 f4 : FuncId) (c1 c2 c3 c4 : List D) : z8r [(f1, c1, 1, !standsT u || zzn l), (f2, c2, 4, !(z06 id u).2), (f3, c3, 9, decide ((z06 id u).1.kind = 0)), (f4, c4, 6, decide (256 < l.length))] = z2z u id l := by
 unfold z2z
 cases h1 : standsT u
 ·rw [if_pos (.inl rfl)]; rfl
 by_cases h2 : zzn l = true
 ·rw [if_pos (.inr h2), h2]; rfl
 rw [Bool.not_eq_true] at h2
 rw [h2]
 rw [if_neg (by simp)]
 cases h3 : (z06 id u).2
 ·rw [if_pos rfl]; rfl
 rw [if_neg (by simp)]
 by_cases h4 : (z06 id u).1.kind = 0
 ·rw [if_pos h4, decide_eq_true h4]; rfl
 rw [if_neg h4, decide_eq_false h4]
 by_cases h5 : 256 < l.length
 ·rw [if_pos h5, decide_eq_true h5]; rfl
 ·rw [if_neg h5, decide_eq_false h5]; rfl
theorem zro (u : T) (hu : szB u = true) (cu : cntT u <= 1000000) (du : depT u <= 1000000) (id : Idv) (l : List Wd) (hl : l.length <= 1000000) (hw : ∀ w ∈ l, w.text.size <= maxLen) (f : T -> T) {g : FuncId} {cp : List D} (hc : pureD.pureL cp = true)
  (hg : ∀ q : T, PC prog g (z0g q :: cp) (z0g (f q))) :
  PC prog 109 [z0g u, z1a id, z0n l, .fn g cp] (.tup [z0g (if z2z u id l = 0 then z1g id f u else T.zero), .int .i64 (z2z u id l)]) := by
 have c3 := z7i u (z8l u hu) (by omega) id
 have c4 := zbc [(158, [.rptr (z0g u), .rptr (z0n l), .rptr (.fn 157 [])], 1, !standsT u || zzn l), (159, [.rptr (.bool (z06 id u).2)], 4, !(z06 id u).2), (160, [.rptr (z0g (z06 id u).1)], 9, decide ((z06 id u).1.kind = 0)), (161, [.rptr (z0n l)], 6, decide (256 < l.length))]
  (by simp) (by
   intro c hc
   simp only [List.mem_cons, List.not_mem_nil, or_false] at hc
   rcases hc with rfl | rfl | rfl | rfl
   ·exact ⟨by simp only [pureD.pureL, z01, z0h, pureD, Bool.and_self], zxu u hu cu du l hl hw⟩
   ·exact ⟨rfl, zxv _⟩
   ·exact ⟨by simp only [pureD.pureL, z01, pureD, Bool.and_self], zxw _⟩
   ·exact ⟨by simp only [pureD.pureL, z0h, pureD, Bool.and_self], zxx l⟩)
 rw [zp1] at c4
 refine z14 3 (by simp only [pureD.pureL, z01, z0h, pureD, hc, Bool.and_self]; rfl) (by simp only [pureD.pureL, z01, pureD, Bool.and_self]) (z0z [] func109 rfl (by decide +kernel) rfl ?_)
 show awp _ _ (Code.seq _ _) _ _
 rw [show Tryz.f109.results.toList = [.cell 8 27, .tmp 9] from rfl]
 by_cases ht : z2z u id l = 0
 ·obtain ⟨h1, hm, _, _, _⟩ := zki ht
  have c5 := zg3 u hu id f hc (fun q _ _ => hg q)
  rw [(show (atR id f u).1 = z1g id f u from by rw [zh2 _ (z1m h1) hm])] at c5
  rw [ht] at c4 ⊢
  rw [if_pos rfl]
  repeat' (first | ((first | refine zqh fun K J => ?_ | refine zqs (c3) ?_); (simp (disch := omega) only [go_sem, Nat.reduceBEq, ↓reduceIte, reduceCtorEq, Nat.reduceAdd, Nat.reduceMul, Nat.reduceLeDiff, Nat.reduceLT])) | (refine J _ ?_; clear J K))
  refine z0w (PC.borrow c4 rfl 6 (z00 (z37 5 rfl (z00 (z0v _ 2 rfl (z00 (z05 (e := 27) 1 ?_ z0j (z04 _)) (z00 (z1d (e := 24) 2 ?_ zfe (z02 1 (z0h _))) (z00 (z1d (e := 137) 2 ?_ zl8 (z02 1 rfl)) z0d)))) (z00 (z0v _ 2 rfl (z00 (z1d (e := 4) 2 ?_ zfs (z02 1 rfl)) z0d)) (z00 (z0v _ 2 rfl (z00 (z05 (e := 27) 1 ?_ z0j (z04 _)) z0d)) (z00 (z0v _ 2 rfl (z00 (z1d (e := 24) 2 ?_ zfe (z02 1 (z0h _))) z0d)) z0d))))) z0d)) ?_
  all_goals try (focus ((simp (disch := omega) only [go_sem, Nat.reduceBEq]); done))
  (try (simp (disch := omega) only [go_sem, Nat.reduceBEq])); repeat' (first | refine nxt ?_ | ((first | refine zqh fun K J => ?_ | refine zqs (c5) ?_); (simp (disch := omega) only [go_sem, Nat.reduceBEq, ↓reduceIte, Nat.reduceAdd, Nat.reduceLeDiff])) | (refine zqd _ rfl ?_ ?_ <;> intro hc <;> (first | (cases hc; done) | ((try simp only [] at hc); (try omega)))) | refine zqu (by (simp (disch := omega) only [go_sem, Nat.reduceBEq, ↓reduceIte, Nat.reduceLeDiff]); rfl) rfl ?_ | (refine J _ ?_; clear J K))
  refine z08 ?_ (Le.refl _)
  simp only [pureD, pureD.pureL, z04, Bool.and_self]
 ·rw [if_neg ht]
  repeat' (first | ((first | refine zqh fun K J => ?_ | refine zqs (c3) ?_); (simp (disch := omega) only [go_sem, Nat.reduceBEq, ↓reduceIte, reduceCtorEq, Nat.reduceAdd, Nat.reduceMul, Nat.reduceLeDiff, Nat.reduceLT])) | (refine J _ ?_; clear J K))
  refine z0w (PC.borrow c4 rfl 6 (z00 (z37 5 rfl (z00 (z0v _ 2 rfl (z00 (z05 (e := 27) 1 ?_ z0j (z04 _)) (z00 (z1d (e := 24) 2 ?_ zfe (z02 1 (z0h _))) (z00 (z1d (e := 137) 2 ?_ zl8 (z02 1 rfl)) z0d)))) (z00 (z0v _ 2 rfl (z00 (z1d (e := 4) 2 ?_ zfs (z02 1 rfl)) z0d)) (z00 (z0v _ 2 rfl (z00 (z05 (e := 27) 1 ?_ z0j (z04 _)) z0d)) (z00 (z0v _ 2 rfl (z00 (z1d (e := 24) 2 ?_ zfe (z02 1 (z0h _))) z0d)) z0d))))) z0d)) ?_
  all_goals try (focus ((simp (disch := omega) only [go_sem, Nat.reduceBEq]); done))
  (try (simp (disch := omega) only [go_sem, Nat.reduceBEq])); repeat' (first | refine nxt ?_ | ((refine zqh fun K J => ?_); (simp (disch := omega) only [go_sem, Nat.reduceBEq, ↓reduceIte, Nat.reduceAdd, Nat.reduceLeDiff])) | (refine zqd _ rfl ?_ ?_ <;> intro hc <;> (((try simp only [z07] at hc); (try omega)))) | refine zqu (by (simp (disch := omega) only [go_sem, Nat.reduceBEq, ↓reduceIte, Nat.reduceAdd, Nat.reduceLeDiff]); rfl) rfl ?_ | (refine J _ ?_; clear J K))
  exact z08 rfl (Le.tup ⟨z0t, Le.refl _, trivial⟩)
theorem zmw (q : T) (l : List Wd) (hl : l.length <= 1000000) : PC prog 110 [z0g q, .rptr (z0n l)] (z0g (q.setWords l)) := by
 have c1 := z8p l hl
 refine z14 5 (by simp only [pureD.pureL, z01, z0h, pureD, Bool.and_self]) (z01 _) (z0z [] func110 rfl (by decide +kernel) rfl ?_)
 show awp _ _ (Code.seq _ _) _ _
 rw [show Tryz.f110.results.toList = [.cell 3 27] from rfl]
 rw [show z0g q = .agg _ from by rw [z0g, z0k]]
 repeat' (first | ((first | refine zqh fun K J => ?_ | refine z6n (c1) ?_); (simp (disch := omega) only [go_sem, Nat.reduceBEq, ↓reduceIte, reduceCtorEq, Nat.reduceAdd, Nat.reduceLeDiff, Nat.reduceLT, z0n, zmr, List.set_cons_succ, List.set_cons_zero])) | refine nxt ?_ | refine zqu (by (simp (disch := omega) only [go_sem, Nat.reduceBEq, ↓reduceIte, Nat.reduceAdd, Nat.reduceLeDiff]); rfl) rfl ?_ | (refine J _ ?_; clear J K))
 rw [z0g, z0k]
 refine z3i (z4z 4 (by simp only [pureD.pureL, pureD, Bool.and_false, Bool.false_and]) (z00 (z02 3 rfl) (z00 (z02 3 rfl) (z00 (z02 3 rfl) (z00 (z02 3 rfl) (z00 (z02 3 rfl) (z00 (z02 3 (z0h _)) (z00 (z16 (f := z10) (l := l) 2 rfl ?_ z5y z89 (fun _ => rfl) (fun _ => rfl)) (z00 (z02 3 (z3l _)) z0d)))))))))
 (simp (disch := omega) only [go_sem, Nat.reduceBEq])
theorem zp2 (u : T) (hu : szB u = true) (cu : cntT u <= 1000000) (du : depT u <= 1000000) (id : Idv) (l : List Wd) (hl : l.length <= 1000000) (hw : ∀ w ∈ l, w.text.size <= maxLen) :
  PC prog 82 [z0g u, z1a id, z0n l] (.tup [z0g (if z2z u id l = 0 then z1g id (fun q => q.setWords l) u else T.zero), .int .i64 (z2z u id l)]) := by
 have c1 := zro u hu cu du id l hl hw (fun q => q.setWords l) (g := 110) (cp := [.rptr (z0n l)]) (by simp only [pureD.pureL, z0h, pureD, Bool.and_self]) (fun q => zmw q l hl)
 refine z14 3 (by simp only [pureD.pureL, z01, z0h, Bool.and_self]; rfl) (by simp only [pureD.pureL, z01, pureD, Bool.and_self]) (z0z [] func82 rfl (by decide +kernel) rfl ?_)
 show awp _ _ (Code.seq _ _) _ _
 rw [show Tryz.f82.results.toList = [.cell 6 27, .tmp 7] from rfl]
 refine z1f fun K J => ?_
 (simp (disch := omega) only [go_sem, Nat.reduceBEq, Nat.reduceAdd])
 refine J _ _ (zq7 (b := 2) (j := 5) (e := 24) (cs := [z0n l]) (d := z0n l) (by (simp (disch := omega) only [go_sem, Nat.reduceBEq, Nat.reduceAdd])) (.inl rfl) (z0h _) (by (simp (disch := omega) only [go_sem, Nat.reduceBEq, Nat.reduceAdd]))) ?_
 clear J K
 repeat' (first | ((first | refine zqh fun K J => ?_ | refine zqs (c1) ?_); (simp (disch := omega) only [go_sem, Nat.reduceBEq, ↓reduceIte, Nat.reduceAdd, Nat.reduceLeDiff, z0n])) | refine nxt ?_ | refine zqu (by (simp (disch := omega) only [go_sem, Nat.reduceBEq, ↓reduceIte, Nat.reduceLeDiff]); rfl) rfl ?_ | (refine J _ ?_; clear J K))
 refine z08 ?_ (Le.refl _)
 simp only [pureD, pureD.pureL, z04, Bool.and_self]
theorem zi1 (q : T) (l : List Wd) (hl : l.length <= 1000000) : PC prog 112 [z0g q, .rptr (z0n l)] (z0g (q.setHead l)) := by
 have c1 := z8p l hl
 refine z14 5 (by simp only [pureD.pureL, z01, z0h, pureD, Bool.and_self]) (z01 _) (z0z [] func112 rfl (by decide +kernel) rfl ?_)
 show awp _ _ (Code.seq _ _) _ _
 rw [show Tryz.f112.results.toList = [.cell 3 27] from rfl]
 rw [show z0g q = .agg _ from by rw [z0g, z0k]]
 repeat' (first | ((first | refine zqh fun K J => ?_ | refine z6n (c1) ?_); (simp (disch := omega) only [go_sem, Nat.reduceBEq, ↓reduceIte, reduceCtorEq, Nat.reduceAdd, Nat.reduceLeDiff, Nat.reduceLT, z0n, zmr, List.set_cons_succ, List.set_cons_zero])) | refine nxt ?_ | refine zqu (by (simp (disch := omega) only [go_sem, Nat.reduceBEq, ↓reduceIte, Nat.reduceAdd, Nat.reduceLeDiff]); rfl) rfl ?_ | (refine J _ ?_; clear J K))
 rw [z0g, z0k]
 refine z3i (z4z 4 (by simp only [pureD.pureL, pureD, Bool.and_false, Bool.false_and]) (z00 (z02 3 rfl) (z00 (z02 3 rfl) (z00 (z02 3 rfl) (z00 (z02 3 rfl) (z00 (z02 3 rfl) (z00 (z16 (f := z10) (l := l) 2 rfl ?_ z5y z89 (fun _ => rfl) (fun _ => rfl)) (z00 (z02 3 (z0h _)) (z00 (z02 3 (z3l _)) z0d)))))))))
 (simp (disch := omega) only [go_sem, Nat.reduceBEq])
theorem zkj (u : T) (hu : szB u = true) (cu : cntT u <= 1000000) (du : depT u <= 1000000) (id : Idv) (l : List Wd) (hl : l.length <= 1000000) (hw : ∀ w ∈ l, w.text.size <= maxLen) :
  PC prog 84 [z0g u, z1a id, z0n l] (.tup [z0g (if z2z u id l = 0 then z1g id (fun q => q.setHead l) u else T.zero), .int .i64 (z2z u id l)]) := by
 have c1 := zro u hu cu du id l hl hw (fun q => q.setHead l) (g := 112) (cp := [.rptr (z0n l)]) (by simp only [pureD.pureL, z0h, pureD, Bool.and_self]) (fun q => zi1 q l hl)
 refine z14 3 (by simp only [pureD.pureL, z01, z0h, Bool.and_self]; rfl) (by simp only [pureD.pureL, z01, pureD, Bool.and_self]) (z0z [] func84 rfl (by decide +kernel) rfl ?_)
 show awp _ _ (Code.seq _ _) _ _
 rw [show Tryz.f84.results.toList = [.cell 6 27, .tmp 7] from rfl]
 refine z1f fun K J => ?_
 (simp (disch := omega) only [go_sem, Nat.reduceBEq, Nat.reduceAdd])
 refine J _ _ (zq7 (b := 2) (j := 5) (e := 24) (cs := [z0n l]) (d := z0n l) (by (simp (disch := omega) only [go_sem, Nat.reduceBEq, Nat.reduceAdd])) (.inl rfl) (z0h _) (by (simp (disch := omega) only [go_sem, Nat.reduceBEq, Nat.reduceAdd]))) ?_
 clear J K
 repeat' (first | ((first | refine zqh fun K J => ?_ | refine zqs (c1) ?_); (simp (disch := omega) only [go_sem, Nat.reduceBEq, ↓reduceIte, Nat.reduceAdd, Nat.reduceLeDiff, z0n])) | refine nxt ?_ | refine zqu (by (simp (disch := omega) only [go_sem, Nat.reduceBEq, ↓reduceIte, Nat.reduceLeDiff]); rfl) rfl ?_ | (refine J _ ?_; clear J K))
 refine z08 ?_ (Le.refl _)
 simp only [pureD, pureD.pureL, z04, Bool.and_self]
namespace Tr
end Tr
namespace Tr
end Tr
namespace Tr
end Tr
theorem zm1 (u : T) (hu : szB u = true) (cu : cntT u <= 1000000) (du : depT u <= 1000000) (id : Idv) (l : List Wd) (hl : l.length <= 1000000) (hw : ∀ w ∈ l, w.text.size <= maxLen) (head : Bool) :
  PC prog 93 [z0g u, z1a id, z0n l, .bool head] (.tup [z0g (if z2z u id l = 0 then z1g id (fun q => if head = true then q.setHead l else q.setWords l) u else T.zero), .int .i64 (z2z u id l)]) := by
 have c1 := z5u u hu (by omega) (by omega)
 have c2 := fun (i : Nat) (h : i < l.length) => zy0 l[i].text (hw _ (List.getElem_mem h))
 have c3 := z49 id u hu
 have hx := z4p id u hu
 refine z14 3 (by simp only [pureD.pureL, z01, z0h, pureD, Bool.and_self]; rfl) (by simp only [pureD.pureL, z01, pureD, Bool.and_self]) (z0z [1000049, 1000051, 1000053, 1000055] func93 rfl (by decide +kernel) rfl ?_)
 show awp _ _ (Code.seq _ _) _ _
 rw [show Tryz.f93.results.toList = [.cell 8 27, .tmp 9] from rfl]
 by_cases h1 : standsT u = false
 ·rw [show z2z u id l = 1 from by unfold z2z; rw [if_pos (.inl h1)], if_neg (by decide)]
  rw [h1] at c1
  repeat' (first | refine nxt ?_ | ((first | refine zqh fun K J => ?_ | refine zqs (c1) ?_); (simp (disch := omega) only [go_sem, Nat.reduceBEq, ↓reduceIte, Nat.reduceAdd, Nat.reduceLeDiff])) | (refine zqd _ rfl ?_ ?_ <;> intro hc <;> (first | (cases hc; done) | ((try simp only [] at hc); (try omega)))) | refine zqu (by (simp (disch := omega) only [go_sem, Nat.reduceBEq, ↓reduceIte, Nat.reduceAdd, Nat.reduceLeDiff]); rfl) rfl ?_ | (refine J _ ?_; clear J K))
  exact z08 rfl (Le.tup ⟨z0t, Le.refl _, trivial⟩)
 rw [Bool.not_eq_false] at h1
 rw [h1] at c1
 repeat' (first | refine nxt ?_ | ((first | refine zqh fun K J => ?_ | refine zqs (c1) ?_); (simp (disch := omega) only [go_sem, Nat.reduceBEq, ↓reduceIte, Nat.reduceAdd, Nat.reduceLeDiff])) | (refine zqd _ rfl ?_ ?_ <;> intro hc <;> (first | (cases hc; done) | ((try simp only [] at hc); (try omega)))) | (refine J _ ?_; clear J K))
 (refine z3c (fun U st => ∃ (i : _), U = l.length - i /\ st.t 2 = z0n l /\ st.t 3 = .bool head /\ st.t 4 = .ptr 0 0 /\ st.t 5 = .ptr 1 0 /\ st.t 8 = .ptr 2 0 /\ st.t 10 = .int .i64 i /\ st.H 0 = some (.box 27 (z0a u)) /\ st.H 1 = some (.box 23 (z0b id)) /\ st.H 2 = some (.box 27 [.int .i64 0, .int .i64 0, .int .i64 0, .int .i64 0, .str ByteArray.empty, .nil, .nil, .nil]) /\ st.nx = 3 /\ (i <= l.length) /\ ((l.take i).any (fun w => !z6q w.text) = false)) ?_ ?_); rotate_left; (rintro U st ⟨i, rfl, q2, q3, q4, q5, q8, q10, qH0, qH1, qH2, qnx, qp0, qp1⟩); rotate_left
 ·(refine ⟨_, 0, rfl, ?_⟩); (simp (disch := omega) only [go_sem, Nat.reduceBEq, and_self, Int.natCast_zero, z0b])
  try simp
 by_cases hi : i < l.length
 ·have c2 := c2 i hi
  cases hwd : z6q l[i].text
  ·rw [hwd] at c2
   rw [show z2z u id l = 1 from by unfold z2z; rw [if_pos (.inr (zku (f := fun w : Wd => !z6q w.text) hi (by rw [hwd]; rfl)))], if_neg (by decide)]
   repeat' (first | refine nxt ?_ | ((first | refine zqh fun K J => ?_ | refine zqs (c2) ?_); (simp (disch := omega) only [go_sem, Nat.reduceBEq, ↓reduceIte, reduceCtorEq, Nat.reduceAdd, Nat.reduceLeDiff, q2, q8, q10, qH2, qnx, z0n])) | ((first | refine zqd _ rfl (fun hc => ?_) (fun hc => ?_) | refine zqm _ rfl (fun hc => ?_) (fun hc => ?_)) <;> (first | (cases hc; done) | ((try simp only [z07] at hc); (try omega)))) | refine zqu (by (simp (disch := omega) only [go_sem, Nat.reduceBEq, ↓reduceIte, Nat.reduceAdd, Nat.reduceLeDiff, q8, qH2]); rfl) rfl ?_ | (refine J _ ?_; clear J K))
   exact z08 rfl (Le.tup ⟨z0t, Le.refl _, trivial⟩)
  ·rw [hwd] at c2
   repeat' (first | refine nxt ?_ | ((first | refine zqh fun K J => ?_ | refine zqr fun K J => ?_ | refine zqs (c2) ?_); (simp (disch := omega) only [go_sem, Nat.reduceBEq, ↓reduceIte, reduceCtorEq, Nat.reduceAdd, q2, q10, qnx, z0n])) | ((first | refine zqd _ rfl (fun hc => ?_) (fun hc => ?_) | refine zqm _ rfl (fun hc => ?_) (fun hc => ?_)) <;> (first | (cases hc; done) | ((try simp only [z07] at hc); (try omega)))) | (refine J _ ?_; clear J K))
   (refine Exists.intro _ (And.intro ?_ ⟨i + 1, rfl, ?_⟩)); rotate_left; (simp (disch := omega) only [go_sem, Nat.reduceBEq, q2, q3, q4, q5, q8, q10, qH0, qH1, qH2, true_and, Int.natCast_add, Int.natCast_one, z0b, z0n]); rotate_left
   ·omega
   ·exact ⟨by omega, z52 hi qp1 (by rw [hwd]; rfl)⟩
 ·have ho : zzn l = false := zkv hi qp1
  have e0 : z2z u id l = (if (z06 id u).2 = false then 4 else if (z06 id u).1.kind = 0 then 9 else if 256 < l.length then 6 else 0) := by unfold z2z; rw [if_neg (by rw [h1, ho]; simp)]
  by_cases h3 : (z06 id u).2 = false
  ·rw [show z2z u id l = 4 from by rw [e0, if_pos h3], if_neg (by decide)]
   rw [h3] at c3
   repeat' (first | refine nxt ?_ | ((first | refine zqh fun K J => ?_ | refine zqs (c3) ?_); (simp (disch := omega) only [go_sem, Nat.reduceBEq, ↓reduceIte, Nat.reduceAdd, Nat.reduceLeDiff, q2, q4, q5, q8, q10, qH0, qH1, qH2, qnx, z0b, z0n])) | (refine zqd _ rfl ?_ ?_ <;> intro hc <;> (first | (cases hc; done) | ((try simp only [z07] at hc); (try omega)))) | refine zqz ?_ | refine zqu (by (simp (disch := omega) only [go_sem, Nat.reduceBEq, ↓reduceIte, Nat.reduceAdd, Nat.reduceLeDiff, q8, qH2]); rfl) rfl ?_ | (refine J _ ?_; clear J K))
   exact z08 rfl (Le.tup ⟨z0t, Le.refl _, trivial⟩)
  rw [if_neg h3] at e0
  rw [Bool.not_eq_false] at h3
  rw [h3] at c3
  have hm : id ∈ z0i u := by rw [z33, decide_eq_true_eq] at h3; exact h3
  by_cases h4 : (z06 id u).1.kind = 0
  ·rw [show z2z u id l = 9 from by rw [e0, if_pos h4], if_neg (by decide)]
   have h4d : decide ((z06 id u).1.kind = 0) = true := decide_eq_true h4
   repeat' (first | refine nxt ?_ | ((first | refine zqh fun K J => ?_ | refine zqs (c3) ?_); (simp (disch := omega) only [go_sem, Nat.reduceBEq, ↓reduceIte, reduceCtorEq, Nat.reduceAdd, Nat.reduceLeDiff, q2, q4, q5, q8, q10, qH0, qH1, qH2, qnx, z0b, z0n, h4d])) | (refine zqd _ rfl ?_ ?_ <;> intro hc <;> (first | (cases hc; done) | ((try simp only [z07] at hc); (try omega)))) | refine zqz ?_ | refine zqu (by (simp (disch := omega) only [go_sem, Nat.reduceBEq, ↓reduceIte, Nat.reduceAdd, Nat.reduceLeDiff, q8, qH2]); rfl) rfl ?_ | (refine J _ ?_; clear J K))
   exact z08 rfl (Le.tup ⟨z0t, Le.refl _, trivial⟩)
  rw [if_neg h4] at e0
  have h4d : decide ((z06 id u).1.kind = 0) = false := decide_eq_false h4
  by_cases h5 : 256 < l.length
  ·rw [show z2z u id l = 6 from by rw [e0, if_pos h5], if_neg (by decide)]
   repeat' (first | refine nxt ?_ | ((first | refine zqh fun K J => ?_ | refine zqs (c3) ?_); (simp (disch := omega) only [go_sem, Nat.reduceBEq, ↓reduceIte, reduceCtorEq, Nat.reduceAdd, Nat.reduceLeDiff, q2, q4, q5, q8, q10, qH0, qH1, qH2, qnx, z0b, z0n, h4d])) | (refine zqd _ rfl ?_ ?_ <;> intro hc <;> (first | (cases hc; done) | ((try simp only [z07] at hc); (try omega)))) | refine zqz ?_ | refine zqu (by (simp (disch := omega) only [go_sem, Nat.reduceBEq, ↓reduceIte, Nat.reduceAdd, Nat.reduceLeDiff, q8, qH2]); rfl) rfl ?_ | (refine J _ ?_; clear J K))
   exact z08 rfl (Le.tup ⟨z0t, Le.refl _, trivial⟩)
  rw [if_neg h5] at e0
  rw [e0, if_pos rfl]
  obtain ⟨_, _, hfi, _, _⟩ := focus id u hm
  rw [show z0g (z06 id u).1 = .agg _ from by rw [z0g, z0k]] at c3
  cases head
  ·have c7 := zp8 ((z06 id u).1.setWords l) u hu
   rw [zgk (f := fun q => q.setWords l) (z1m h1) hm rfl hfi (fun q => rfl)] at c7
   rw [show z0g ((z06 id u).1.setWords l) = .agg _ from by rw [z0g, z0k]] at c7
   repeat' (first | refine nxt ?_ | ((first | refine zqh fun K J => ?_ | refine zqs (c3) ?_ | refine zqs (c7) ?_); (simp (disch := omega) only [go_sem, Nat.reduceBEq, ↓reduceIte, reduceCtorEq, Nat.reduceAdd, Nat.reduceMul, Nat.reduceLeDiff, Nat.reduceLT, q2, q3, q4, q5, q8, q10, qH0, qH1, qH2, qnx, z0b, z0n, h4d, z4j, z9d, zad, List.set_cons_succ, List.set_cons_zero])) | (refine zqd _ rfl ?_ ?_ <;> intro hc <;> (first | (cases hc; done) | ((try simp only [z07] at hc); (try omega)))) | refine zqz ?_ | refine zqu (by (simp (disch := omega) only [go_sem, Nat.reduceBEq, ↓reduceIte, Nat.reduceLeDiff, q8, qH2]); rfl) rfl ?_ | (refine J _ ?_; clear J K))
   simp only [Bool.false_eq_true, if_false]
   refine z08 ?_ (Le.refl _)
   simp only [pureD, pureD.pureL, z04, Bool.and_self]
  ·have c7 := zp8 ((z06 id u).1.setHead l) u hu
   rw [zgk (f := fun q => q.setHead l) (z1m h1) hm rfl hfi (fun q => rfl)] at c7
   rw [show z0g ((z06 id u).1.setHead l) = .agg _ from by rw [z0g, z0k]] at c7
   repeat' (first | refine nxt ?_ | ((first | refine zqh fun K J => ?_ | refine zqs (c3) ?_ | refine zqs (c7) ?_); (simp (disch := omega) only [go_sem, Nat.reduceBEq, ↓reduceIte, reduceCtorEq, Nat.reduceAdd, Nat.reduceMul, Nat.reduceLeDiff, Nat.reduceLT, q2, q3, q4, q5, q8, q10, qH0, qH1, qH2, qnx, z0b, z0n, h4d, z4j, z9d, zad, List.set_cons_succ, List.set_cons_zero])) | (refine zqd _ rfl ?_ ?_ <;> intro hc <;> (first | (cases hc; done) | ((try simp only [z07] at hc); (try omega)))) | refine zqz ?_ | refine zqu (by (simp (disch := omega) only [go_sem, Nat.reduceBEq, ↓reduceIte, Nat.reduceLeDiff, q8, qH2]); rfl) rfl ?_ | (refine J _ ?_; clear J K))
   simp only [if_true]
   refine z08 ?_ (Le.refl _)
   simp only [pureD, pureD.pureL, z04, Bool.and_self]
namespace Tr
def zhv (rest p : T) (parent : Idv) (x : T) : Bool := decide (64 <= p.kids.length \/ 8 < (z7g parent rest).length + 1 + depT x)
def z4a (u : T) (id parent : Idv) (i : Int) : Int :=
 if standsT u = false then 1 else
 if (z06 id u).2 = false \/ (z06 parent u).2 = false then 4 else
 if u.id = id \/ (z06 parent (z06 id u).1).2 = true then 9 else
 if z1x (z06 parent (z0o id u)).1.kind (z06 id u).1.kind = false then 9 else
 if i < 0 \/ ((z06 parent (z0o id u)).1.kids.length : Int) < i then 3 else
 if z3b (z06 parent (z0o id u)).1.kids (z06 id u).1.kind (z06 id u).1.label = true then 10 else
 if zhv (z0o id u) (z06 parent (z0o id u)).1 parent (z06 id u).1 = true then 6 else 0
theorem zk6 {u : T} {id parent : Idv} {i : Int} (h : z4a u id parent i = 0) : standsT u = true /\ id ∈ z0i u /\ parent ∈ z0i u /\ ¬ u.id = id /\ parent ∉ z0i (z06 id u).1 /\ z3e (z0o id u) parent i (z06 id u).1 = 0 := by
 unfold z4a at h
 split at h
 ·cases h
 rename_i h1
 split at h
 ·cases h
 rename_i h2
 split at h
 ·cases h
 rename_i h3
 split at h
 ·cases h
 rename_i h4
 split at h
 ·cases h
 rename_i h5
 split at h
 ·cases h
 rename_i h6
 split at h
 ·cases h
 rename_i h7
 simp only [not_or, Bool.not_eq_false, Bool.not_eq_true] at h1 h2 h3 h4 h6 h7
 obtain ⟨h2a, h2b⟩ := h2
 obtain ⟨h3a, h3b⟩ := h3
 rw [z33, decide_eq_true_eq] at h2a h2b
 rw [z33, decide_eq_false_iff_not] at h3b
 obtain ⟨under, n, x, d1, d2, d3, d4, d5, d6, d7, d8, d9, d10, d11, d12⟩ := zfz h1 h3a h2a
 rw [d2] at h3b h4 h6 h7 ⊢
 simp only at h3b h4 h6 h7 ⊢
 have hpr : parent ∈ z0i (z0o id u) := (d12 parent h2b).resolve_left h3b
 have hc : cntT u <= 1024 := ((z24 u).1 h1).2.2.1
 unfold zhv at h7
 rw [decide_eq_false_iff_not] at h7
 refine ⟨h1, h2a, h2b, h3a, h3b, ?_⟩
 obtain ⟨m, rfl⟩ := Int.eq_ofNat_of_zero_le (show 0 <= i by omega)
 exact zia d4 d5 d6 hpr h4 (by omega) h6 (by omega) (by omega) (by omega) d9
theorem zm7 {u : T} {id parent : Idv} (h1 : standsT u = true) (h2 : id ∈ z0i u) (h3 : parent ∈ z0i u) (h4 : ¬ u.id = id) (h5 : parent ∉ z0i (z06 id u).1) : (z06 parent (z0o id u)).1.kind = (z06 parent u).1.kind := by
 have := zvl u (z1m h1) h4 h3 (fun y hy => by rw [hy] at h5; exact h5)
 rw [this]
 exact (z90 id _).2.1
end Tr
theorem pc_Move1 (u : T) (hu : szB u = true) (cu : cntT u <= 1000000) (du : depT u <= 1000000) : PC prog 133 [.rptr (z0g u)] (.bool (!standsT u)) := by
 have c1 := z8s u hu (by omega) (by omega)
 refine z14 1 (by simp only [pureD.pureL, z01, pureD, Bool.and_self]) rfl (z0z [] func133 rfl (by decide +kernel) rfl ?_)
 show awp _ _ (Code.seq _ _) _ _
 repeat' (first | ((first | refine zqh fun K J => ?_ | refine zqs (c1) ?_); (simp (disch := omega) only [go_sem, Nat.reduceBEq, ↓reduceIte, Nat.reduceAdd])) | refine nxt ?_ | refine zqu (by simp only [go_sem]; rfl) rfl ?_ | (refine J _ ?_; clear J K))
 exact z03 rfl
theorem pc_Move2 (u : T) (hu : szB u = true) (cu : cntT u <= 1000000) (du : depT u <= 1000000) (id parent : Idv) : PC prog 134 [.rptr (z0g u), .rptr (z1a id), .rptr (z1a parent)] (.bool (!(z06 id u).2 || !(z06 parent u).2)) := by
 have c1 := zmu u (z8l u hu) (by omega) id
 have c2 := zmu u (z8l u hu) (by omega) parent
 refine z14 1 (by simp only [pureD.pureL, z01, pureD]; rfl) rfl (z0z [] func134 rfl (by decide +kernel) rfl ?_)
 show awp _ _ (Code.seq _ _) _ _
 repeat' (first | ((first | refine zqh fun K J => ?_ | refine zqs (c1) ?_ | refine zqs (c2) ?_); (simp (disch := omega) only [go_sem, Nat.reduceBEq, ↓reduceIte, Nat.reduceAdd])) | refine nxt ?_ | refine zqu (by simp only [go_sem]; rfl) rfl ?_ | (refine J _ ?_; clear J K) | (refine zqf (fun hb => ?_) (fun hb => ?_) <;> (have hb2 := hb; try simp only [z07] at hb2) <;> ((have F : (_ : Bool) = _ := hb2); (simp (disch := omega) only [go_sem, Nat.reduceBEq, ↓reduceIte, Nat.reduceAdd, F]); clear hb F; (try omega))))
 all_goals exact z03 (by simp [hb2])
theorem pc_Move3 (u p x : T) (hu : szB u = true) (hx : szB x = true) (cp : p.kids.length <= 1000000) (du : depT u <= 1000000) (dx : depT x <= 1000000) (parent : Idv) : PC prog 135 [.rptr (z0g p), .rptr (z0g u), .rptr (z1a parent), .rptr (z0g x)] (.bool (zhv u p parent x)) := by
 have c1 := zrj u (z8l u hu) (by omega) parent
 have c2 := zl4 x (z80 x hx) (by omega)
 have ha := zfp parent u
 refine z14 1 (by simp only [pureD.pureL, z01, pureD, Bool.and_self]; rfl) rfl (z0z [3000006, 3000010, 3000011, 5000012, 3000014, 5000015] func135 rfl (by decide +kernel) rfl ?_)
 show awp _ _ (Code.seq _ _) _ _
 repeat' (first | ((first | refine zqh fun K J => ?_ | refine zqe (by decide +kernel) fun K J => ?_ | refine zqt (c1) ?_ | refine zqt (c2) ?_); (simp (disch := omega) only [go_sem, Nat.reduceBEq, Nat.reduceEqDiff, ↓reduceIte, reduceCtorEq, Nat.reduceAdd, z0q])) | refine nxt ?_ | refine zqu (by simp only [go_sem]; rfl) rfl ?_ | (refine J _ ?_; clear J K) | (refine zqf (fun hb => ?_) (fun hb => ?_) <;> (have hb2 := hb; try simp only [z07] at hb2) <;> ((first | have F := eq_false hb2 | have F := eq_true hb2); (simp (disch := omega) only [go_sem, Nat.reduceBEq, Nat.reduceEqDiff, ↓reduceIte, Nat.reduceAdd, F]); clear hb F; (try omega))))
 ·exact z03 (decide_eq_decide.2 (by omega))
 ·exact z03 (decide_eq_true (by omega)).symm
theorem pc_Move4 (p : T) (i : Int) : PC prog 137 [.rptr (.int .i64 i), .rptr (z0g p)] (.bool (decide (i < 0) || decide ((p.kids.length : Int) < i))) := by
 refine z14 1 (by simp only [pureD.pureL, z01, pureD, Bool.and_self]) rfl (z0z [] func137 rfl (by decide +kernel) rfl ?_)
 show awp _ _ (Code.seq _ _) _ _
 repeat' (first | ((refine zqh fun K J => ?_); (simp (disch := omega) only [go_sem, Nat.reduceBEq, ↓reduceIte, Nat.reduceAdd])) | refine nxt ?_ | refine zqu (by simp only [go_sem]; rfl) rfl ?_ | (refine J _ ?_; clear J K) | (refine zqf (fun hb => ?_) (fun hb => ?_) <;> (have hb2 := hb; try simp only [z07] at hb2) <;> ((first | have F := eq_false hb2 | have F := eq_true hb2); (simp (disch := omega) only [go_sem, Nat.reduceBEq, ↓reduceIte, reduceCtorEq, Nat.reduceAdd, F, z0q]); clear hb F; (try omega))))
 all_goals exact z03 (by simp [hb2])
theorem pc_Move5 (p x : T) (hp : szB p = true) : PC prog 138 [.rptr (z0g p), .rptr (z0g x)] (.bool (z3b p.kids x.kind x.label)) := by
 have c1 := zkf p.kids (z9g hp).1 x.kind x.label
 refine z14 1 (by simp only [pureD.pureL, z01, pureD, Bool.and_self]) rfl (z0z [] func138 rfl (by decide +kernel) rfl ?_)
 show awp _ _ (Code.seq _ _) _ _
 repeat' (first | ((first | refine zqh fun K J => ?_ | refine zqs (c1) ?_); (simp (disch := omega) only [go_sem, Nat.reduceBEq, ↓reduceIte, reduceCtorEq, Nat.reduceAdd, z0q])) | refine nxt ?_ | refine zqu (by simp only [go_sem]; rfl) rfl ?_ | (refine J _ ?_; clear J K))
 exact z03 rfl
theorem zof (u : T) (id parent : Idv) (f1 f2 : FuncId) (c1 c2 : List D) : z8r [(f1, c1, 1, !standsT u), (f2, c2, 4, !(z06 id u).2 || !(z06 parent u).2)] = (if standsT u = false then 1 else if (z06 id u).2 = false \/ (z06 parent u).2 = false then 4 else 0) := by
 cases h1 : standsT u
 ·rw [if_pos rfl]; rfl
 rw [if_neg (by simp), Bool.not_true, z4l]
 cases h2 : (z06 id u).2
 ·rw [if_pos (.inl rfl)]; rfl
 cases h3 : (z06 parent u).2
 ·rw [if_pos (.inr rfl)]; rfl
 ·rw [if_neg (by simp)]; rfl
theorem ztc (rest p x : T) (parent : Idv) (i : Int) (f1 f2 f3 : FuncId) (c1 c2 c3 : List D) : z8r [(f1, c1, 3, decide (i < 0) || decide ((p.kids.length : Int) < i)), (f2, c2, 10, z3b p.kids x.kind x.label), (f3, c3, 6, zhv rest p parent x)] =
  (if i < 0 \/ (p.kids.length : Int) < i then 3 else if z3b p.kids x.kind x.label = true then 10 else if zhv rest p parent x = true then 6 else 0) := by
 by_cases hi : i < 0 \/ (p.kids.length : Int) < i
 ·rw [if_pos hi, show (decide (i < 0) || decide ((p.kids.length : Int) < i)) = true from by simpa using hi]; rfl
 rw [if_neg hi, show (decide (i < 0) || decide ((p.kids.length : Int) < i)) = false from by simpa using hi, z4l]
 cases ht : z3b p.kids x.kind x.label
 ·rw [if_neg (by simp), z4l]
  cases hf : zhv rest p parent x
  ·rw [if_neg (by simp)]; rfl
  ·rw [if_pos rfl]; rfl
 ·rw [if_pos rfl]; rfl
theorem pc_Move (u : T) (hu : szB u = true) (cu : cntT u <= 1000000) (du : depT u <= 1000000) (id parent : Idv) (i : Int) :
  PC prog 90 [z0g u, z1a id, z1a parent, .int .i64 i] (.tup [z0g (if z4a u id parent i = 0 then z1g parent (z7r i.toNat (z06 id u).1) (z0o id u) else T.zero), .int .i64 (z4a u id parent i)]) := by
 have hx := z4p id u hu
 have hr := zy3 (id := id) u hu
 have dr : depT (z0o id u) <= depT u := zq3 u
 have dx : depT (z06 id u).1 <= depT u := zq4 id u
 have hp := z4p parent (z0o id u) hr
 have c1 := z7i u (z8l u hu) (by omega) id
 have c2 := z7i u (z8l u hu) (by omega) parent
 have c3 := zmu (z06 id u).1 (z8l _ hx) (by omega) parent
 have c4 := z9f (z06 parent u).1.kind (z06 id u).1.kind
 have c6 := z7i (z0o id u) (z8l _ hr) (by omega) parent
 have c7 := zbc [(133, [.rptr (z0g u)], 1, !standsT u), (134, [.rptr (z0g u), .rptr (z1a id), .rptr (z1a parent)], 4, !(z06 id u).2 || !(z06 parent u).2)]
  (by simp) (by
   intro c hc
   simp only [List.mem_cons, List.not_mem_nil, or_false] at hc
   rcases hc with rfl | rfl
   ·exact ⟨by simp only [pureD.pureL, z01, pureD, Bool.and_self], pc_Move1 u hu cu du⟩
   ·exact ⟨by simp only [pureD.pureL, z01, pureD]; rfl, pc_Move2 u hu cu du id parent⟩)
 have c8 := zbc [(137, [.rptr (.int .i64 i), .rptr (z0g (z06 parent (z0o id u)).1)], 3, decide (i < 0) || decide (((z06 parent (z0o id u)).1.kids.length : Int) < i)), (138, [.rptr (z0g (z06 parent (z0o id u)).1), .rptr (z0g (z06 id u).1)], 10, z3b (z06 parent (z0o id u)).1.kids (z06 id u).1.kind (z06 id u).1.label),
   (135, [.rptr (z0g (z06 parent (z0o id u)).1), .rptr (z0g (z0o id u)), .rptr (z1a parent), .rptr (z0g (z06 id u).1)], 6, zhv (z0o id u) (z06 parent (z0o id u)).1 parent (z06 id u).1)]
  (by simp) (by
   intro c hc
   simp only [List.mem_cons, List.not_mem_nil, or_false] at hc
   rcases hc with rfl | rfl | rfl
   ·exact ⟨by simp only [pureD.pureL, z01, pureD, Bool.and_self], pc_Move4 _ i⟩
   ·exact ⟨by simp only [pureD.pureL, z01, pureD, Bool.and_self], pc_Move5 _ _ hp⟩
   ·exact ⟨by simp only [pureD.pureL, z01, pureD, Bool.and_self]; rfl, pc_Move3 _ _ _ hr hx (z9g hp).1 (by omega) (by omega) parent⟩)
 rw [zof] at c7
 rw [ztc] at c8
 refine z14 3 (by simp only [pureD.pureL, z01, pureD, Bool.and_self]; rfl) (by simp only [pureD.pureL, z01, pureD, Bool.and_self]) (z0z [3000081, 3000082, 3000083, 3000084, 5000085, 5000086] func90 rfl (by decide +kernel) rfl ?_)
 show awp _ _ (Code.seq _ _) _ _
 rw [show Tryz.f90.results.toList = [.cell 8 27, .tmp 9] from rfl]
 by_cases h1 : standsT u = false
 ·rw [if_pos h1] at c7
  rw [show z4a u id parent i = 1 from by unfold z4a; rw [if_pos h1], if_neg (by decide)]
  repeat' (first | ((refine zqh fun K J => ?_); (simp (disch := omega) only [go_sem, Nat.reduceBEq, ↓reduceIte, reduceCtorEq, Nat.reduceAdd, Nat.reduceMul, Nat.reduceLeDiff])) | (refine J _ ?_; clear J K))
  refine z0w (PC.borrow c7 rfl 6 (z00 (z37 5 rfl (z00 (z0v _ 2 rfl (z00 (z05 (e := 27) 1 ?_ z0j (z04 _)) z0d)) (z00 (z0v _ 2 rfl (z00 (z05 (e := 27) 1 ?_ z0j (z04 _)) (z00 (z05 (e := 23) 1 ?_ z1o rfl) (z00 (z05 (e := 23) 1 ?_ z1o rfl) z0d)))) z0d))) z0d)) ?_
  all_goals try (focus ((simp (disch := omega) only [go_sem, Nat.reduceBEq, z0b]); done))
  (try (simp (disch := omega) only [go_sem, Nat.reduceBEq])); repeat' (first | refine nxt ?_ | ((refine zqh fun K J => ?_); (simp (disch := omega) only [go_sem, Nat.reduceBEq, ↓reduceIte, Nat.reduceAdd, Nat.reduceLeDiff, Int.reduceEq])) | (refine zqd _ rfl ?_ ?_ <;> intro hc <;> (first | (cases hc; done) | ((try simp only [] at hc); (try omega)))) | refine zqu (by (simp (disch := omega) only [go_sem, Nat.reduceBEq, ↓reduceIte, Nat.reduceAdd, Nat.reduceLeDiff]); rfl) rfl ?_ | (refine J _ ?_; clear J K))
  exact z08 rfl (Le.tup ⟨z0t, Le.refl _, trivial⟩)
 rw [if_neg h1] at c7
 by_cases h2 : (z06 id u).2 = false \/ (z06 parent u).2 = false
 ·rw [if_pos h2] at c7
  rw [show z4a u id parent i = 4 from by unfold z4a; rw [if_neg h1, if_pos h2], if_neg (by decide)]
  repeat' (first | ((refine zqh fun K J => ?_); (simp (disch := omega) only [go_sem, Nat.reduceBEq, ↓reduceIte, reduceCtorEq, Nat.reduceAdd, Nat.reduceMul, Nat.reduceLeDiff])) | (refine J _ ?_; clear J K))
  refine z0w (PC.borrow c7 rfl 6 (z00 (z37 5 rfl (z00 (z0v _ 2 rfl (z00 (z05 (e := 27) 1 ?_ z0j (z04 _)) z0d)) (z00 (z0v _ 2 rfl (z00 (z05 (e := 27) 1 ?_ z0j (z04 _)) (z00 (z05 (e := 23) 1 ?_ z1o rfl) (z00 (z05 (e := 23) 1 ?_ z1o rfl) z0d)))) z0d))) z0d)) ?_
  all_goals try (focus ((simp (disch := omega) only [go_sem, Nat.reduceBEq, z0b]); done))
  (try (simp (disch := omega) only [go_sem, Nat.reduceBEq])); repeat' (first | refine nxt ?_ | ((refine zqh fun K J => ?_); (simp (disch := omega) only [go_sem, Nat.reduceBEq, ↓reduceIte, Nat.reduceAdd, Nat.reduceLeDiff, Int.reduceEq])) | (refine zqd _ rfl ?_ ?_ <;> intro hc <;> (first | (cases hc; done) | ((try simp only [] at hc); (try omega)))) | refine zqu (by (simp (disch := omega) only [go_sem, Nat.reduceBEq, ↓reduceIte, Nat.reduceAdd, Nat.reduceLeDiff]); rfl) rfl ?_ | (refine J _ ?_; clear J K))
  exact z08 rfl (Le.tup ⟨z0t, Le.refl _, trivial⟩)
 rw [if_neg h2] at c7
 rw [Bool.not_eq_false] at h1
 simp only [not_or, Bool.not_eq_false] at h2
 obtain ⟨h2a, h2b⟩ := h2
 have m1 : id ∈ z0i u := by rw [z33, decide_eq_true_eq] at h2a; exact h2a
 have m2 : parent ∈ z0i u := by rw [z33, decide_eq_true_eq] at h2b; exact h2b
 have e0 : z4a u id parent i = (if u.id = id \/ (z06 parent (z06 id u).1).2 = true then 9 else
   if z1x (z06 parent (z0o id u)).1.kind (z06 id u).1.kind = false then 9 else
   if i < 0 \/ ((z06 parent (z0o id u)).1.kids.length : Int) < i then 3 else
   if z3b (z06 parent (z0o id u)).1.kids (z06 id u).1.kind (z06 id u).1.label = true then 10 else
   if zhv (z0o id u) (z06 parent (z0o id u)).1 parent (z06 id u).1 = true then 6 else 0) := by
  unfold z4a; rw [if_neg (by rw [h1]; simp), if_neg (by rw [h2a, h2b]; simp)]
 have hself : decide (id = u.id) = decide (u.id = id) := decide_eq_decide.2 ⟨fun h => h.symm, fun h => h.symm⟩
 by_cases h3 : u.id = id \/ (z06 parent (z06 id u).1).2 = true \/ z1x (z06 parent u).1.kind (z06 id u).1.kind = false
 ·have e9 : z4a u id parent i = 9 := by
   rw [e0]
   by_cases h4 : u.id = id \/ (z06 parent (z06 id u).1).2 = true
   ·rw [if_pos h4]
   ·rw [if_neg h4]
    have h5 : z1x (z06 parent u).1.kind (z06 id u).1.kind = false := by
     rcases h3 with h | h | h
     ·exact (h4 (.inl h)).elim
     ·exact (h4 (.inr h)).elim
     ·exact h
    have O := zm7 h1 m1 m2 (fun e => h4 (.inl e)) (fun hm => h4 (.inr (by rw [z33, decide_eq_true hm])))
    rw [O, if_pos h5]
  rw [e9, if_neg (by decide)]
  repeat' (first | ((refine zqh fun K J => ?_); (simp (disch := omega) only [go_sem, Nat.reduceBEq, ↓reduceIte, reduceCtorEq, Nat.reduceAdd, Nat.reduceMul, Nat.reduceLeDiff])) | (refine J _ ?_; clear J K))
  refine z0w (PC.borrow c7 rfl 6 (z00 (z37 5 rfl (z00 (z0v _ 2 rfl (z00 (z05 (e := 27) 1 ?_ z0j (z04 _)) z0d)) (z00 (z0v _ 2 rfl (z00 (z05 (e := 27) 1 ?_ z0j (z04 _)) (z00 (z05 (e := 23) 1 ?_ z1o rfl) (z00 (z05 (e := 23) 1 ?_ z1o rfl) z0d)))) z0d))) z0d)) ?_
  all_goals try (focus ((simp (disch := omega) only [go_sem, Nat.reduceBEq, z0b]); done))
  (try (simp (disch := omega) only [go_sem, Nat.reduceBEq])); repeat' (first | refine nxt ?_ | ((first | refine zqh fun K J => ?_ | refine zqs (c1) ?_ | refine zqs (c2) ?_ | refine zqs (c3) ?_ | refine zqs (c4) ?_); (simp (disch := omega) only [go_sem, Nat.reduceBEq, ↓reduceIte, reduceCtorEq, Nat.reduceAdd, Nat.reduceLeDiff, hself])) | (refine zqd _ rfl ?_ ?_ <;> intro hc <;> (first | (cases hc; done) | ((try simp only [z07] at hc); (try omega)))) | refine zqu (by (simp (disch := omega) only [go_sem, Nat.reduceBEq, ↓reduceIte, Nat.reduceAdd, Nat.reduceLeDiff]); rfl) rfl ?_ | (refine J _ ?_; clear J K) | (refine zqf (fun hb => ?_) (fun hb => ?_) <;> (have hb2 := hb; try simp only [z07] at hb2) <;> ((first | have F : (_ : Bool) = _ := hb2 | have F := eq_false hb2 | have F := eq_true hb2); (simp (disch := omega) only [go_sem, Nat.reduceBEq, ↓reduceIte, reduceCtorEq, Nat.reduceAdd, Nat.reduceLeDiff, F]); clear hb F; (try omega))))
  ·exact z08 rfl (Le.tup ⟨z0t, Le.refl _, trivial⟩)
  ·exfalso
   rcases h3 with h | h | h
   ·exact ‹¬ u.id = id› h
   ·rw [‹(z06 parent (z06 id u).1).2 = false›] at h; cases h
   ·rw [‹z1x (z06 parent u).1.kind (z06 id u).1.kind = true›] at h; cases h
  all_goals exact z08 rfl (Le.tup ⟨z0t, Le.refl _, trivial⟩)
 simp only [not_or, Bool.not_eq_true, Bool.not_eq_false] at h3
 obtain ⟨h3a, h3b, h3c⟩ := h3
 have n1 : parent ∉ z0i (z06 id u).1 := by rw [z33, decide_eq_false_iff_not] at h3b; exact h3b
 have O := zm7 h1 m1 m2 h3a n1
 rw [if_neg (by simp [h3a, h3b]), if_neg (by rw [O, h3c]; simp)] at e0
 rw [<- e0] at c8
 have c5 := zfr u hu du id h1 m1 h3a
 have h3d : decide (id = u.id) = false := decide_eq_false fun e => h3a e.symm
 rw [h3b] at c3
 rw [h3c] at c4
 by_cases hw : z4a u id parent i = 0
 ·obtain ⟨_, _, _, _, _, hwr⟩ := zk6 hw
  obtain ⟨hr2, hm, n, rfl, hn⟩ := zc7 hwr
  have c9 := pc_put n (z06 id u).1
  have c10 := zg3 (z0o id u) hr parent (z7r n (z06 id u).1) (g := 179) (cap := [.rptr (.int .i64 n), .rptr (z0g (z06 id u).1)]) (by simp only [pureD.pureL, z01, pureD, Bool.and_self]) (fun q hq hid => zvy n _ hx q (zaw _ hr q hq) (hn q hq hid))
  rw [(show (atR parent (z7r n (z06 id u).1) (z0o id u)).1 = z1g parent (z7r n (z06 id u).1) (z0o id u) from by rw [zh2 _ (z1m hr2.1) hm])] at c10
  rw [hw] at c8 ⊢
  rw [if_pos rfl, Int.toNat_natCast]
  repeat' (first | ((refine zqh fun K J => ?_); (simp (disch := omega) only [go_sem, Nat.reduceBEq, ↓reduceIte, reduceCtorEq, Nat.reduceAdd, Nat.reduceMul, Nat.reduceLeDiff])) | (refine J _ ?_; clear J K))
  refine z0w (PC.borrow c7 rfl 6 (z00 (z37 5 rfl (z00 (z0v _ 2 rfl (z00 (z05 (e := 27) 1 ?_ z0j (z04 _)) z0d)) (z00 (z0v _ 2 rfl (z00 (z05 (e := 27) 1 ?_ z0j (z04 _)) (z00 (z05 (e := 23) 1 ?_ z1o rfl) (z00 (z05 (e := 23) 1 ?_ z1o rfl) z0d)))) z0d))) z0d)) ?_
  all_goals try (focus ((simp (disch := omega) only [go_sem, Nat.reduceBEq, z0b]); done))
  (try (simp (disch := omega) only [go_sem, Nat.reduceBEq])); repeat' (first | refine nxt ?_ | ((first | refine zqh fun K J => ?_ | refine zqs (c1) ?_ | refine zqs (c2) ?_ | refine zqs (c3) ?_ | refine zqs (c4) ?_ | refine zqs (c5) ?_ | refine zqs (c6) ?_); (simp (disch := omega) only [go_sem, Nat.reduceBEq, ↓reduceIte, reduceCtorEq, Nat.reduceAdd, Nat.reduceMul, Nat.reduceLeDiff, h3d])) | (refine zqd _ rfl ?_ ?_ <;> intro hc <;> (first | (cases hc; done) | ((try simp only [] at hc); (try omega)))) | (refine J _ ?_; clear J K))
  refine z0w (PC.borrow c8 rfl 6 (z00 (z37 5 rfl (z00 (z0v _ 2 rfl (z00 (z1d (e := 3) 2 ?_ z40 (z02 1 rfl)) (z00 (z05 (e := 27) 1 ?_ z0j (z04 _)) z0d))) (z00 (z0v _ 2 rfl (z00 (z05 (e := 27) 1 ?_ z0j (z04 _)) (z00 (z05 (e := 27) 1 ?_ z0j (z04 _)) z0d))) (z00 (z0v _ 2 rfl (z00 (z05 (e := 27) 1 ?_ z0j (z04 _)) (z00 (z05 (e := 27) 1 ?_ z0j (z04 _)) (z00 (z05 (e := 23) 1 ?_ z1o rfl) (z00 (z05 (e := 27) 1 ?_ z0j (z04 _)) z0d))))) z0d)))) z0d)) ?_
  all_goals try (focus ((simp (disch := omega) only [go_sem, Nat.reduceBEq, z0b]); done))
  (try (simp (disch := omega) only [go_sem, Nat.reduceBEq])); repeat' (first | refine nxt ?_ | ((first | refine zqh fun K J => ?_ | refine zqe (by decide +kernel) fun K J => ?_ | refine zqt (c9) ?_ | refine zqt (c10) ?_); (simp (disch := omega) only [go_sem, Nat.reduceBEq, Nat.reduceEqDiff, ↓reduceIte, Nat.reduceAdd, Nat.reduceLeDiff])) | (refine zqd _ rfl ?_ ?_ <;> intro hc <;> (first | (cases hc; done) | ((try simp only [] at hc); (try omega)))) | refine zqu (by (simp (disch := omega) only [go_sem, Nat.reduceBEq, ↓reduceIte, Nat.reduceLeDiff]); rfl) rfl ?_ | (refine J _ ?_; clear J K))
  refine z08 ?_ (Le.refl _)
  simp only [pureD, pureD.pureL, z04, Bool.and_self]
 ·rw [if_neg hw]
  repeat' (first | ((refine zqh fun K J => ?_); (simp (disch := omega) only [go_sem, Nat.reduceBEq, ↓reduceIte, reduceCtorEq, Nat.reduceAdd, Nat.reduceMul, Nat.reduceLeDiff])) | (refine J _ ?_; clear J K))
  refine z0w (PC.borrow c7 rfl 6 (z00 (z37 5 rfl (z00 (z0v _ 2 rfl (z00 (z05 (e := 27) 1 ?_ z0j (z04 _)) z0d)) (z00 (z0v _ 2 rfl (z00 (z05 (e := 27) 1 ?_ z0j (z04 _)) (z00 (z05 (e := 23) 1 ?_ z1o rfl) (z00 (z05 (e := 23) 1 ?_ z1o rfl) z0d)))) z0d))) z0d)) ?_
  all_goals try (focus ((simp (disch := omega) only [go_sem, Nat.reduceBEq, z0b]); done))
  (try (simp (disch := omega) only [go_sem, Nat.reduceBEq])); repeat' (first | refine nxt ?_ | ((first | refine zqh fun K J => ?_ | refine zqs (c1) ?_ | refine zqs (c2) ?_ | refine zqs (c3) ?_ | refine zqs (c4) ?_ | refine zqs (c5) ?_ | refine zqs (c6) ?_); (simp (disch := omega) only [go_sem, Nat.reduceBEq, ↓reduceIte, reduceCtorEq, Nat.reduceAdd, Nat.reduceMul, Nat.reduceLeDiff, h3d])) | (refine zqd _ rfl ?_ ?_ <;> intro hc <;> (first | (cases hc; done) | ((try simp only [] at hc); (try omega)))) | (refine J _ ?_; clear J K))
  refine z0w (PC.borrow c8 rfl 6 (z00 (z37 5 rfl (z00 (z0v _ 2 rfl (z00 (z1d (e := 3) 2 ?_ z40 (z02 1 rfl)) (z00 (z05 (e := 27) 1 ?_ z0j (z04 _)) z0d))) (z00 (z0v _ 2 rfl (z00 (z05 (e := 27) 1 ?_ z0j (z04 _)) (z00 (z05 (e := 27) 1 ?_ z0j (z04 _)) z0d))) (z00 (z0v _ 2 rfl (z00 (z05 (e := 27) 1 ?_ z0j (z04 _)) (z00 (z05 (e := 27) 1 ?_ z0j (z04 _)) (z00 (z05 (e := 23) 1 ?_ z1o rfl) (z00 (z05 (e := 27) 1 ?_ z0j (z04 _)) z0d))))) z0d)))) z0d)) ?_
  all_goals try (focus ((simp (disch := omega) only [go_sem, Nat.reduceBEq, z0b]); done))
  (try (simp (disch := omega) only [go_sem, Nat.reduceBEq])); repeat' (first | refine nxt ?_ | ((refine zqh fun K J => ?_); (simp (disch := omega) only [go_sem, Nat.reduceBEq, ↓reduceIte, Nat.reduceAdd, Nat.reduceLeDiff])) | (refine zqd _ rfl ?_ ?_ <;> intro hc <;> (((try simp only [z07] at hc); (try omega)))) | refine zqu (by (simp (disch := omega) only [go_sem, Nat.reduceBEq, ↓reduceIte, Nat.reduceAdd, Nat.reduceLeDiff]); rfl) rfl ?_ | (refine J _ ?_; clear J K))
  exact z08 rfl (Le.tup ⟨z0t, Le.refl _, trivial⟩)
theorem pc_MoveR (u : T) (hu : szB u = true) (cu : cntT u <= 1000000) (du : depT u <= 1000000) (id parent : Idv) (i : Int) :
  PC prog 100 [z0g u, z1a id, z1a parent, .int .i64 i] (.tup [z0g (if z4a u id parent i = 0 then z1g parent (z7r i.toNat (z06 id u).1) (z0o id u) else T.zero), .int .i64 (z4a u id parent i)]) := by
 have hx := z4p id u hu
 have hr := zy3 (id := id) u hu
 have dr : depT (z0o id u) <= depT u := zq3 u
 have dx : depT (z06 id u).1 <= depT u := zq4 id u
 have hp := z4p parent (z0o id u) hr
 have hpk := (z9g hp).1
 have ha := zfp parent (z0o id u)
 have c1 := z5u u hu (by omega) (by omega)
 have c2 := z49 id u hu
 have c3 := zyi u hu parent
 have c4 := zyi (z06 id u).1 hx parent
 have c5 := zj1 id u hu
 have c6 := z49 parent (z0o id u) hr
 have c7 := zk2 (z06 parent (z0o id u)).1.kind (z06 id u).1.kind
 have c8 := zh6 (z06 parent (z0o id u)).1.kids hpk (z06 id u).1.kind (z06 id u).1.label (z06 id u).1.id true
 rw [zl9] at c8
 have c9 := zs1 (z0o id u) hr (by omega) parent
 have c10 := zgh (z06 id u).1 hx (by omega)
 refine z14 3 (by simp only [pureD.pureL, z01, pureD, Bool.and_self]; rfl) (by simp only [pureD.pureL, z01, pureD, Bool.and_self]) (z0z [3000081, 3000085, 3000086, 5000087, 3000089, 5000090] func100 rfl (by decide +kernel) rfl ?_)
 show awp _ _ (Code.seq _ _) _ _
 rw [show Tryz.f100.results.toList = [.cell 8 27, .tmp 9] from rfl]
 by_cases s1 : standsT u = false
 ·rw [show z4a u id parent i = 1 from by unfold z4a; rw [if_pos s1], if_neg (by decide)]
  rw [s1] at c1
  repeat' (first | refine nxt ?_ | ((first | refine zqh fun K J => ?_ | refine zqs (c1) ?_); (simp (disch := omega) only [go_sem, Nat.reduceBEq, ↓reduceIte, Nat.reduceAdd, Nat.reduceLeDiff])) | (refine zqd _ rfl ?_ ?_ <;> intro hc <;> (first | (cases hc; done) | ((try simp only [] at hc); (try omega)))) | refine zqu (by (simp (disch := omega) only [go_sem, Nat.reduceBEq, ↓reduceIte, Nat.reduceAdd, Nat.reduceLeDiff]); rfl) rfl ?_ | (refine J _ ?_; clear J K))
  exact z08 rfl (Le.tup ⟨z0t, Le.refl _, trivial⟩)
 by_cases s2 : (z06 id u).2 = false \/ (z06 parent u).2 = false
 ·rw [show z4a u id parent i = 4 from by unfold z4a; rw [if_neg s1, if_pos s2], if_neg (by decide)]
  rw [Bool.not_eq_false] at s1
  rw [s1] at c1
  rcases s2 with h | h
  ·rw [h] at c2
   repeat' (first | refine nxt ?_ | ((first | refine zqh fun K J => ?_ | refine zqs (c1) ?_ | refine zqs (c2) ?_); (simp (disch := omega) only [go_sem, Nat.reduceBEq, ↓reduceIte, Nat.reduceAdd, Nat.reduceLeDiff])) | (refine zqd _ rfl ?_ ?_ <;> intro hc <;> (first | (cases hc; done) | ((try simp only [] at hc); (try omega)))) | refine zqu (by (simp (disch := omega) only [go_sem, Nat.reduceBEq, ↓reduceIte, Nat.reduceAdd, Nat.reduceLeDiff]); rfl) rfl ?_ | (refine J _ ?_; clear J K))
   exact z08 rfl (Le.tup ⟨z0t, Le.refl _, trivial⟩)
  ·rw [h] at c3
   repeat' (first | refine nxt ?_ | ((first | refine zqh fun K J => ?_ | refine zqs (c1) ?_ | refine zqs (c2) ?_ | refine zqs (c3) ?_); (simp (disch := omega) only [go_sem, Nat.reduceBEq, ↓reduceIte, Nat.reduceAdd, Nat.reduceLeDiff])) | (refine zqd _ rfl ?_ ?_ <;> intro hc <;> (first | (cases hc; done) | ((try simp only [] at hc); (try omega)))) | refine zqu (by (simp (disch := omega) only [go_sem, Nat.reduceBEq, ↓reduceIte, Nat.reduceAdd, Nat.reduceLeDiff]); rfl) rfl ?_ | (refine J _ ?_; clear J K) | (refine zqf (fun hb => ?_) (fun hb => ?_) <;> (have hb2 := hb; try simp only [z07] at hb2) <;> ((have F : (_ : Bool) = _ := hb2); (simp (disch := omega) only [go_sem, Nat.reduceBEq, ↓reduceIte, Nat.reduceAdd, Nat.reduceLeDiff, F]); clear hb F; (try omega))))
   all_goals exact z08 rfl (Le.tup ⟨z0t, Le.refl _, trivial⟩)
 have e0 : z4a u id parent i = (if u.id = id \/ (z06 parent (z06 id u).1).2 = true then 9 else
   if z1x (z06 parent (z0o id u)).1.kind (z06 id u).1.kind = false then 9 else
   if i < 0 \/ ((z06 parent (z0o id u)).1.kids.length : Int) < i then 3 else
   if z3b (z06 parent (z0o id u)).1.kids (z06 id u).1.kind (z06 id u).1.label = true then 10 else
   if zhv (z0o id u) (z06 parent (z0o id u)).1 parent (z06 id u).1 = true then 6 else 0) := by
  unfold z4a; rw [if_neg s1, if_neg s2]
 rw [Bool.not_eq_false] at s1
 simp only [not_or, Bool.not_eq_false] at s2
 obtain ⟨s2a, s2b⟩ := s2
 rw [s1] at c1
 rw [s2a] at c2
 rw [s2b] at c3
 by_cases s3 : u.id = id \/ (z06 parent (z06 id u).1).2 = true
 ·rw [show z4a u id parent i = 9 from by rw [e0, if_pos s3], if_neg (by decide)]
  by_cases h : u.id = id
  ·have V : decide (u.id = id) = true := decide_eq_true h
   repeat' (first | refine nxt ?_ | ((first | refine zqh fun K J => ?_ | refine zqs (c1) ?_ | refine zqs (c2) ?_ | refine zqs (c3) ?_); (simp (disch := omega) only [go_sem, Nat.reduceBEq, ↓reduceIte, reduceCtorEq, Nat.reduceAdd, Nat.reduceLeDiff, V])) | (refine zqd _ rfl ?_ ?_ <;> intro hc <;> (first | (cases hc; done) | ((try simp only [] at hc); (try omega)))) | refine zqu (by (simp (disch := omega) only [go_sem, Nat.reduceBEq, ↓reduceIte, Nat.reduceAdd, Nat.reduceLeDiff]); rfl) rfl ?_ | (refine J _ ?_; clear J K))
   exact z08 rfl (Le.tup ⟨z0t, Le.refl _, trivial⟩)
  ·have V : decide (u.id = id) = false := decide_eq_false h
   rw [s3.resolve_left h] at c4
   repeat' (first | refine nxt ?_ | ((first | refine zqh fun K J => ?_ | refine zqs (c1) ?_ | refine zqs (c2) ?_ | refine zqs (c3) ?_ | refine zqs (c4) ?_); (simp (disch := omega) only [go_sem, Nat.reduceBEq, ↓reduceIte, reduceCtorEq, Nat.reduceAdd, Nat.reduceLeDiff, V])) | (refine zqd _ rfl ?_ ?_ <;> intro hc <;> (first | (cases hc; done) | ((try simp only [] at hc); (try omega)))) | refine zqu (by (simp (disch := omega) only [go_sem, Nat.reduceBEq, ↓reduceIte, Nat.reduceAdd, Nat.reduceLeDiff]); rfl) rfl ?_ | (refine J _ ?_; clear J K))
   exact z08 rfl (Le.tup ⟨z0t, Le.refl _, trivial⟩)
 rw [if_neg s3] at e0
 rw [not_or, Bool.not_eq_true] at s3
 have V : decide (u.id = id) = false := decide_eq_false s3.1
 rw [s3.2] at c4
 repeat' (first | refine nxt ?_ | ((first | refine z1j (N := 10) rfl fun K J => ?_ | refine zqs (c1) ?_ | refine zqs (c2) ?_ | refine zqs (c3) ?_ | refine zqs (c4) ?_ | refine zqs (c5) ?_ | refine zqs (c6) ?_); (simp (disch := omega) only [go_sem, Nat.reduceBEq, ↓reduceIte, reduceCtorEq, Nat.reduceAdd, Nat.reduceLeDiff, V])) | (refine zqd _ rfl ?_ ?_ <;> intro hc <;> (first | (cases hc; done) | ((try simp only [] at hc); (try omega)))) | (refine J _ ?_; clear J K))
 (refine zvx (fun st => st.t 3 = .int .i64 i /\ st.t 6 = .ptr 2 0 /\ st.t 8 = .ptr 3 0 /\ st.t 10 = .ptr 4 0 /\ st.t 12 = .ptr 5 0 /\ st.t 13 = .ptr 6 0 /\ st.H 2 = some (.box 23 (z0b parent)) /\ st.H 3 = some (.box 27 [.int .i64 0, .int .i64 0, .int .i64 0, .int .i64 0, .str ByteArray.empty, .nil, .nil, .nil]) /\ st.H 4 = some (.box 27 (z0a (z06 id u).1)) /\ st.H 5 = some (.box 27 (z0a (z0o id u))) /\ st.H 6 = some (.box 27 (z0a (z06 parent (z0o id u)).1)) /\ st.nx = 7) ?_ ?_); rotate_left; (rintro st ⟨p3, p6, p8, p10, p12, p13, pH2, pH3, pH4, pH5, pH6, pnx⟩); rotate_left
 ·(simp (disch := omega) only [go_sem, Nat.reduceBEq, and_self, z0b])
 by_cases s4 : z1x (z06 parent (z0o id u)).1.kind (z06 id u).1.kind = false
 ·rw [show z4a u id parent i = 9 from by rw [e0, if_pos s4], if_neg (by decide)]
  rw [s4] at c7
  repeat' (first | refine nxt ?_ | ((first | refine zqh fun K J => ?_ | refine zqs (c7) ?_); (simp (disch := omega) only [go_sem, Nat.reduceBEq, ↓reduceIte, reduceCtorEq, Nat.reduceAdd, Nat.reduceLeDiff, p8, p10, p13, pH3, pH4, pH6, pnx])) | (refine zqd _ rfl ?_ ?_ <;> intro hc <;> (first | (cases hc; done) | ((try simp only [] at hc); (try omega)))) | refine zqu (by (simp (disch := omega) only [go_sem, Nat.reduceBEq, ↓reduceIte, Nat.reduceAdd, Nat.reduceLeDiff, p8, pH3]); rfl) rfl ?_ | (refine J _ ?_; clear J K))
  exact z08 rfl (Le.tup ⟨z0t, Le.refl _, trivial⟩)
 rw [if_neg s4] at e0
 rw [Bool.not_eq_false] at s4
 rw [s4] at c7
 by_cases s5 : i < 0 \/ ((z06 parent (z0o id u)).1.kids.length : Int) < i
 ·rw [show z4a u id parent i = 3 from by rw [e0, if_pos s5], if_neg (by decide)]
  repeat' (first | refine nxt ?_ | ((first | refine zqh fun K J => ?_ | refine zqs (c7) ?_); (simp (disch := omega) only [go_sem, Nat.reduceBEq, ↓reduceIte, reduceCtorEq, Nat.reduceAdd, Nat.reduceLeDiff, p3, p8, p10, p13, pH3, pH4, pH6, pnx])) | (refine zqd _ rfl ?_ ?_ <;> intro hc <;> (first | (cases hc; done) | ((try simp only [z07] at hc); (try omega)))) | refine zqu (by (simp (disch := omega) only [go_sem, Nat.reduceBEq, ↓reduceIte, Nat.reduceAdd, Nat.reduceLeDiff, p8, pH3]); rfl) rfl ?_ | (refine J _ ?_; clear J K) | (refine zqf (fun hb => ?_) (fun hb => ?_) <;> (have hb2 := hb; try simp only [z07] at hb2) <;> ((first | have F := eq_false hb2 | have F := eq_true hb2); (simp (disch := omega) only [go_sem, Nat.reduceBEq, ↓reduceIte, reduceCtorEq, Nat.reduceAdd, F, p3, p13, pH6, z0q]); clear hb F; (try omega))))
  all_goals exact z08 rfl (Le.tup ⟨z0t, Le.refl _, trivial⟩)
 rw [if_neg s5] at e0
 by_cases s6 : z3b (z06 parent (z0o id u)).1.kids (z06 id u).1.kind (z06 id u).1.label = true
 ·rw [show z4a u id parent i = 10 from by rw [e0, if_pos s6], if_neg (by decide)]
  rw [s6] at c8
  repeat' (first | refine nxt ?_ | ((first | refine zqh fun K J => ?_ | refine zqs (c7) ?_ | refine zqs (c8) ?_); (simp (disch := omega) only [go_sem, Nat.reduceBEq, ↓reduceIte, reduceCtorEq, Nat.reduceAdd, Nat.reduceLeDiff, p3, p8, p10, p13, pH3, pH4, pH6, pnx, z0q])) | (refine zqd _ rfl ?_ ?_ <;> intro hc <;> (first | (cases hc; done) | ((try simp only [z07] at hc); (try omega)))) | refine zqu (by (simp (disch := omega) only [go_sem, Nat.reduceBEq, ↓reduceIte, Nat.reduceAdd, Nat.reduceLeDiff, p8, pH3]); rfl) rfl ?_ | (refine J _ ?_; clear J K) | (refine zqf (fun hb => ?_) (fun hb => ?_) <;> (have hb2 := hb; try simp only [z07] at hb2) <;> ((first | have F := eq_false hb2 | have F := eq_true hb2); (simp (disch := omega) only [go_sem, Nat.reduceBEq, ↓reduceIte, reduceCtorEq, Nat.reduceAdd, F, p3, p13, pH6, z0q]); clear hb F; (try omega))))
  exact z08 rfl (Le.tup ⟨z0t, Le.refl _, trivial⟩)
 rw [if_neg s6] at e0
 rw [Bool.not_eq_true] at s6
 rw [s6] at c8
 unfold zhv at e0
 by_cases s7 : 64 <= (z06 parent (z0o id u)).1.kids.length \/ 8 < (z7g parent (z0o id u)).length + 1 + depT (z06 id u).1
 ·rw [show z4a u id parent i = 6 from by rw [e0, decide_eq_true s7, if_pos rfl], if_neg (by decide)]
  repeat' (first | refine nxt ?_ | ((first | refine zqh fun K J => ?_ | refine zqe (by decide +kernel) fun K J => ?_ | refine zqs (c7) ?_ | refine zqs (c8) ?_ | refine zqt (c9) ?_ | refine zqt (c10) ?_); (simp (disch := omega) only [go_sem, Nat.reduceBEq, Nat.reduceEqDiff, ↓reduceIte, reduceCtorEq, Nat.reduceAdd, Nat.reduceLeDiff, Nat.reduceLT, p3, p8, p10, p13, pH3, pH4, pH6, pnx, z0q])) | (refine zqd _ rfl ?_ ?_ <;> intro hc <;> (first | (cases hc; done) | ((try simp only [z07] at hc); (try omega)))) | refine zqu (by (simp (disch := omega) only [go_sem, Nat.reduceBEq, ↓reduceIte, Nat.reduceAdd, Nat.reduceLeDiff, p8, pH3]); rfl) rfl ?_ | (refine J _ ?_; clear J K) | (refine zqf (fun hb => ?_) (fun hb => ?_) <;> (have hb2 := hb; try simp only [z07] at hb2) <;> ((first | have F := eq_false hb2 | have F := eq_true hb2); (simp (disch := omega) only [go_sem, Nat.reduceBEq, Nat.reduceEqDiff, ↓reduceIte, reduceCtorEq, Nat.reduceAdd, Nat.reduceLeDiff, F, p3, p6, p12, p13, pH2, pH5, pH6, pnx, z0b, z0q]); clear hb F; (try omega))))
  all_goals exact z08 rfl (Le.tup ⟨z0t, Le.refl _, trivial⟩)
 have em : z4a u id parent i = 0 := by rw [e0, decide_eq_false s7, if_neg (by simp)]
 obtain ⟨_, _, _, _, _, hwr⟩ := zk6 em
 obtain ⟨hr2, hm, n, rfl, hn⟩ := zc7 hwr
 have c11 := zrz parent n (z06 id u).1 (z0o id u) hr hn
 rw [em, if_pos rfl, Int.toNat_natCast]
 repeat' (first | refine nxt ?_ | ((first | refine zqh fun K J => ?_ | refine zqe (by decide +kernel) fun K J => ?_ | refine zqs (c7) ?_ | refine zqs (c8) ?_ | refine zqt (c9) ?_ | refine zqt (c10) ?_ | refine zqs (c11) ?_); (simp (disch := omega) only [go_sem, Nat.reduceBEq, Nat.reduceEqDiff, ↓reduceIte, reduceCtorEq, Nat.reduceAdd, Nat.reduceLeDiff, Nat.reduceLT, p3, p6, p8, p10, p12, p13, pH2, pH3, pH4, pH5, pH6, pnx, z0b, z0q])) | (refine zqd _ rfl ?_ ?_ <;> intro hc <;> (first | (cases hc; done) | ((try simp only [z07] at hc); (try omega)))) | refine zqu (by (simp (disch := omega) only [go_sem, Nat.reduceBEq, ↓reduceIte, Nat.reduceLeDiff, p8, pH3]); rfl) rfl ?_ | (refine J _ ?_; clear J K) | (refine zqf (fun hb => ?_) (fun hb => ?_) <;> (have hb2 := hb; try simp only [z07] at hb2) <;> ((first | have F := eq_false hb2 | have F := eq_true hb2); (simp (disch := omega) only [go_sem, Nat.reduceBEq, Nat.reduceEqDiff, ↓reduceIte, reduceCtorEq, Nat.reduceAdd, Nat.reduceLeDiff, F, p3, p6, p12, p13, pH2, pH5, pH6, pnx, z0b, z0q]); clear hb F; (try omega))))
 refine z08 ?_ (Le.refl _)
 simp only [pureD, pureD.pureL, z04, Bool.and_self]
namespace Tr
theorem take_zero {u x : T} {id : Idv} (h1 : standsT u = true) (h2 : z06 id u = (x, true)) (h3 : ¬ u.id = id) : z5m u id = 0 := by
 unfold z5m; rw [if_neg (by rw [h1]; simp), if_neg (by rw [h2]; simp), if_neg h3]
end Tr
end
section
open Abs Facts Tr
namespace Tr
def zh7 (t : T) : T := t.setKids []
def zkw (id : Idv) (a b : T) : Prop := ∀ p ∈ z0l a, ∃ p' ∈ z0l b, p'.id = p.id /\ (p.id ≠ id -> zh7 p' = zh7 p) /\ ∀ y ∈ p.kids, ∃ y' ∈ p'.kids, y'.id = y.id
theorem zda : ∀ u x : T, x ∈ z0l u -> ∀ y ∈ z0l x, y ∈ z0l u := by
 refine fun u => z4x (p := fun u => ∀ x : T, x ∈ z0l u -> ∀ y ∈ z0l x, y ∈ z0l u) (fun u ih x hx y hy => ?_) u
 rw [z25, List.mem_cons] at hx
 rcases hx with rfl | hx
 ·exact hy
 ·obtain ⟨k, O, hxk⟩ := List.mem_flatMap.1 hx
  exact z2n O (ih k O x hxk y hy)
theorem zj3 : ∀ t : T, (z0i t).Nodup -> ∀ p ∈ z0l t, ∀ y ∈ p.kids, (z5a y.id t).1 = p.id := by
 refine z4x fun t ih hn p hp y hy => ?_
 obtain ⟨g1, g2, g3⟩ := ze6 hn
 rw [z25, List.mem_cons] at hp
 rcases hp with rfl | hp
 ·obtain ⟨i, hi, rfl⟩ := List.getElem_of_mem hy
  rw [zfx (id := p.kids[i].id) (t := p) (i := i) (fun e => g1 _ hy (e ▸ z2y _)) hi (fun j hj h => (z9e _ _).2 (g3 i j hi h (by omega) _ (z2y _))) rfl]
 ·obtain ⟨k, O, hpk⟩ := List.mem_flatMap.1 hp
  obtain ⟨i, hi, rfl⟩ := List.getElem_of_mem O
  have hyi : y.id ∈ z0i t.kids[i] := List.mem_map.2 ⟨y, zda _ p hpk y (z2n hy (z1z y)), rfl⟩
  have hne : ¬ t.kids[i].id = y.id := by
   intro e
   have hn2 := g2 _ O
   have key : ∀ t : T, (z0i t).Nodup -> ∀ p ∈ z0l t, ∀ y ∈ p.kids, t.id ≠ y.id := by
    intro t hn p hp y hy e
    rw [z28, List.nodup_cons] at hn
    refine hn.1 ?_
    rw [e]
    rw [z25, List.mem_cons] at hp
    rcases hp with rfl | hp
    ·exact List.mem_flatMap.2 ⟨y, hy, z2y y⟩
    ·obtain ⟨k, O, hpk⟩ := List.mem_flatMap.1 hp
     refine List.mem_flatMap.2 ⟨k, O, List.mem_map.2 ⟨y, ?_, rfl⟩⟩
     exact zda k p hpk y (z2n hy (z1z y))
   exact key _ hn2 p hpk y hy e
  rw [znu (id := y.id) (t := t) (i := i) (fun e => g1 _ O (e ▸ hyi)) hi (fun j hj h => (z9e _ _).2 (g3 i j hi h (by omega) _ hyi)) hne (zae.2 hyi)]
  exact ih _ O (g2 _ O) p hpk y hy
theorem zyj (C : Ctx) {x y : T} (h : y ∈ z0l x) : y ∈ z0l (z2r C x) := by
 induction C with
 | hole => exact h
 | node t l c r ih => exact z2n (t := z2r (.node t l c r) x) (k := z2r c x) (by show _ ∈ l ++ _ :: r; simp) ih
theorem zyk {t : T} {k : Idv} (O : k ∈ z0i t) (h0 : ¬ t.id = k) : ∃ p ∈ z0l t, ∃ y ∈ p.kids, y.id = k := by
 obtain ⟨C, q, l, x, r, e, hx, _⟩ := zqw h0 O
 refine ⟨q.setKids (l ++ x :: r), ?_, x, by show x ∈ l ++ x :: r; simp, hx⟩
 rw [e]
 exact zyj C (z1z _)
theorem z5v {id : Idv} {a b : T} (J : zkw id a b) (ha : (z0i a).Nodup) (hb : (z0i b).Nodup) {k : Idv} (O : k ∈ z0i a) :
  (z06 k b).2 = true /\ (k ≠ id -> zh7 (z06 k a).1 = zh7 (z06 k b).1) /\ (¬ a.id = k -> (z5a k a).1 = (z5a k b).1) := by
 obtain ⟨p, hp, hpk⟩ := List.mem_map.1 O
 obtain ⟨p', hp', e1, e2, _⟩ := J p hp
 have h1 := z8h ha hp hpk
 have h2 := z8h hb hp' (e1.trans hpk)
 refine ⟨by rw [h2], fun hne => ?_, fun h0 => ?_⟩
 ·rw [h1, h2]; exact (e2 (by rw [hpk]; exact hne)).symm
 ·obtain ⟨q, hq, y, hy, hyk⟩ := zyk O h0
  obtain ⟨q', hq', f1, _, f3⟩ := J q hq
  obtain ⟨y', hy', f4⟩ := f3 y hy
  have g1 := zj3 a ha q hq y hy
  have g2 := zj3 b hb q' hq' y' hy'
  rw [hyk] at g1
  rw [f4, hyk] at g2
  rw [g1, g2, f1]
def zi2 : Ctx -> Ctx -> Ctx
 | .hole, D => D
 | .node t l c r, D => .node t l (zi2 c D) r
theorem zh8 (D : Ctx) (x : T) : ∀ C, z2r (zi2 C D) x = z2r C (z2r D x)
 | .hole => rfl
 | .node t l c r => by rw [zi2, z2r, zh8 D x c, z2r]
theorem zs6 (D : Ctx) : ∀ C, z7b (zi2 C D) = z7b C ++ z7b D
 | .hole => by simp [zi2, z7b]
 | .node t l c r => by rw [zi2, z7b, z7b, zs6 D c, List.cons_append, List.append_assoc]
theorem zn7 (D : Ctx) : ∀ C, z44 (zi2 C D) = z44 D ++ z44 C
 | .hole => by simp [zi2, z44]
 | .node t l c r => by rw [zi2, z44, z44, zn7 D c, List.append_assoc]
theorem zn8 {id : Idv} {a b : T} (h : ∀ p ∈ z0l a, p ∈ z0l b) : zkw id a b := fun p hp => ⟨p, h p hp, rfl, fun _ => rfl, fun y hy => ⟨y, hy, rfl⟩⟩
theorem zeg {id : Idv} {a b : T} (J : zkw id a b) (hid : b.id = a.id) : ∀ C, zkw id (z2r C a) (z2r C b)
 | .hole => J
 | .node t l c r => by
  have ih := zeg J hid c
  have hr : (z2r c b).id = (z2r c a).id := by
   cases c with
   | hole => exact hid
   | node t' l' c' r' => rfl
  intro p hp
  rw [z2r, z25, List.mem_cons] at hp
  rcases hp with rfl | hp
  ·refine ⟨z2r (.node t l c r) b, z1z _, rfl, fun _ => rfl, fun y hy => ?_⟩
   have hy : y ∈ l ++ z2r c a :: r := hy
   show ∃ y' ∈ l ++ z2r c b :: r, y'.id = y.id
   rcases List.mem_append.1 hy with h | h
   ·exact ⟨y, List.mem_append_left _ h, rfl⟩
   ·rcases List.mem_cons.1 h with rfl | h
    ·exact ⟨z2r c b, by simp, hr⟩
    ·exact ⟨y, List.mem_append_right _ (List.mem_cons_of_mem _ h), rfl⟩
  ·have hp : p ∈ (l ++ z2r c a :: r).flatMap z0l := hp
   rw [List.flatMap_append, List.flatMap_cons, List.mem_append, List.mem_append] at hp
   have sub : ∀ k ∈ l ++ z2r c b :: r, ∀ y ∈ z0l k, y ∈ z0l (z2r (.node t l c r) b) := fun k O y hy => z2n (t := z2r (.node t l c r) b) O hy
   rcases hp with h | h | h
   ·obtain ⟨k, O, hpk⟩ := List.mem_flatMap.1 h
    exact ⟨p, sub k (List.mem_append_left _ O) p hpk, rfl, fun _ => rfl, fun y hy => ⟨y, hy, rfl⟩⟩
   ·obtain ⟨p', hp', e⟩ := ih p h
    exact ⟨p', sub _ (by simp) p' hp', e⟩
   ·obtain ⟨k, O, hpk⟩ := List.mem_flatMap.1 h
    exact ⟨p, sub k (List.mem_append_right _ (List.mem_cons_of_mem _ O)) p hpk, rfl, fun _ => rfl, fun y hy => ⟨y, hy, rfl⟩⟩
theorem zyl {id : Idv} (q x : T) (l r : List T) : zkw id (q.setKids (l ++ r)) (q.setKids (l ++ x :: r)) := by
 intro p hp
 have sub : ∀ k ∈ l ++ x :: r, ∀ y ∈ z0l k, y ∈ z0l (q.setKids (l ++ x :: r)) := fun k O y hy => z2n (t := q.setKids (l ++ x :: r)) O hy
 have mem : ∀ k ∈ l ++ r, k ∈ l ++ x :: r := fun k O => by
  rcases List.mem_append.1 O with h | h
  ·exact List.mem_append_left _ h
  ·exact List.mem_append_right _ (List.mem_cons_of_mem _ h)
 rw [z25, List.mem_cons] at hp
 rcases hp with rfl | hp
 ·exact ⟨_, z1z _, rfl, fun _ => rfl, fun y hy => ⟨y, mem y hy, rfl⟩⟩
 ·obtain ⟨k, O, hpk⟩ := List.mem_flatMap.1 hp
  exact ⟨p, sub k (mem k O) p hpk, rfl, fun _ => rfl, fun y hy => ⟨y, hy, rfl⟩⟩
theorem zym {q q' : T} (h1 : q'.id = q.id) (h2 : q'.kids = q.kids) : zkw q.id q q' := by
 intro p hp
 rw [z25, List.mem_cons] at hp
 rcases hp with rfl | hp
 ·exact ⟨q', z1z _, h1, fun h => (h rfl).elim, fun y hy => ⟨y, by rw [h2]; exact hy, rfl⟩⟩
 ·refine ⟨p, ?_, rfl, fun _ => rfl, fun y hy => ⟨y, hy, rfl⟩⟩
  rw [z25, h2]; exact List.mem_cons_of_mem _ hp
theorem zu8 (id : Idv) : ∀ u : T, ∀ p ∈ z0l (z0o id u), ∃ q ∈ z0l u, p = z0o id q := by
 refine z4x fun u ih p hp => ?_
 by_cases hpu : p = z0o id u
 ·exact ⟨u, z1z u, hpu⟩
 ·have hp2 : p ∈ ((u.kids.filter (z4w id)).map (z0o id)).flatMap z0l := by
   have e : z0l (z0o id u) = z0o id u :: ((u.kids.filter (z4w id)).map (z0o id)).flatMap z0l := by
    conv => lhs; rw [z25]
    rw [show (z0o id u).kids = (u.kids.filter (z4w id)).map (z0o id) from by rw [z56]; rfl]
   rw [e, List.mem_cons] at hp
   exact hp.resolve_left hpu
  obtain ⟨k, O, hpk⟩ := List.mem_flatMap.1 hp2
  obtain ⟨k', hk', rfl⟩ := List.mem_map.1 O
  have hm := (List.mem_filter.1 hk').1
  obtain ⟨q, hq, e⟩ := ih k' hm p hpk
  exact ⟨q, z2n hm hq, e⟩
theorem zj4 (id : Idv) (j : Idv) (u : T) : zkw id (z0o j u) u := by
 intro p hp
 obtain ⟨q, hq, rfl⟩ := zu8 j u p hp
 refine ⟨q, hq, (z90 j q).1.symm, fun _ => ?_, fun y hy => ?_⟩
 ·unfold zh7
  obtain ⟨h1, h2, h3, h4, h5⟩ := z90 j q
  unfold T.setKids
  rw [h1, h2, h3, h4, h5]
 ·rw [z56] at hy
  obtain ⟨y', hy', rfl⟩ := List.mem_map.1 hy
  exact ⟨y', (List.mem_filter.1 hy').1, (z90 j y').1.symm⟩
theorem zeh {C : Ctx} {q q' : T} (hs : standsT (z2r C q) = true) (h1 : q'.id = q.id) (h2 : q'.kind = q.kind) (h3 : q'.kids = q.kids) (ha : z3j q' = true) (hC : ctxR C (z6j q) -> ctxR C (z6j q')) : standsT (z2r C q') = true := by
 rw [z24] at hs ⊢
 obtain ⟨u1, u2, u3, u4, u5, u6⟩ := hs
 rw [z3y] at u1
 obtain ⟨hr, hp⟩ := zai C (x := q') (y := q) h1 h2
 have hi : z0i q' = z0i q := by rw [z28, z28, h1, h3]
 have V : depT q' = depT q := by rw [z4r, z4r q, h3]
 have hc : cntT q' = cntT q := by rw [<- z2c, <- z2c, hi]
 refine ⟨?_, ?_, ?_, ?_, by rw [hr, hp]; exact u5, ?_⟩
 ·rw [z3y]
  refine ⟨hC u1.1, ?_⟩
  have := u1.2
  rw [z4i] at this ⊢
  rw [h3, h2]
  simp only [Bool.and_eq_true] at this ⊢
  exact ⟨ha, this.2⟩
 ·rw [z93] at u2 ⊢; omega
 ·rw [z60] at u3 ⊢; omega
 ·rw [z2v, hi, <- z2v]; exact u4
 ·rw [z85, hi, <- z85]; exact u6
def LRP (u v : T) (id : Idv) (gone : List Idv) : Prop := standsT v = true /\ cntT v + gone.length = cntT u /\ gone.Nodup /\
 ∀ k ∈ z0i u, (z06 k v).2 = (!decide (k ∈ gone)) /\ ((z06 k v).2 = true -> k ≠ id -> zh7 (z06 k u).1 = zh7 (z06 k v).1 /\ (z5a k u).1 = (z5a k v).1)
theorem zu9 {u : T} {id : Idv} (h : z5m u id = 0) : LRP u (z0o id u) id (z0i (z06 id u).1) := by
 obtain ⟨h1, h2, h3⟩ := zuy h
 obtain ⟨under, n, x, d1, d2, d3, d4, d5, d6, d7, d8, d9, d10, d11, d12⟩ := zfz h1 h3 h2
 rw [d2]
 refine ⟨d4, by rw [z2c]; exact d11, z1m d5, fun k O => ?_⟩
 by_cases hx : k ∈ z0i x
 ·have : k ∉ z0i (z0o id u) := d9 k hx
  rw [z33, decide_eq_false this, decide_eq_true hx]
  exact ⟨rfl, fun h => by cases h⟩
 ·have hr : k ∈ z0i (z0o id u) := (d12 k O).resolve_left hx
  rw [z33, decide_eq_true hr, decide_eq_false hx]
  refine ⟨rfl, fun _ hne => ?_⟩
  obtain ⟨_, f2, f3⟩ := z5v (zj4 id id u) (z1m d4) (z1m h1) hr
  refine ⟨(f2 hne).symm, ?_⟩
  by_cases hu : u.id = k
  ·rw [z78 hu, z78 (by rw [(z90 id u).1]; exact hu)]
  ·exact (f3 (by rw [(z90 id u).1]; exact hu)).symm
theorem lrp_move {u : T} {id parent : Idv} {m : Nat} (h : z4a u id parent m = 0) : LRP u (z1g parent (z7r m (z06 id u).1) (z0o id u)) id [] := by
 obtain ⟨h1, h2, h3, h4, h5, hw⟩ := zk6 h
 obtain ⟨under, n, x, d1, d2, d3, d4, d5, d6, d7, d8, d9, d10, d11, d12⟩ := zfz h1 h4 h2
 rw [d2] at hw h5 ⊢
 simp only at hw h5 ⊢
 obtain ⟨C, q, l, r, e1, e2, e3, e4, f1, f2, f3, f4, f5, _, f7, f8⟩ := zli hw
 refine ⟨f1, by simp; omega, List.nodup_nil, fun k O => ?_⟩
 have hnv := z1m f1
 have hxu : x ∈ z0l u := by have := zc6 (id := id) (u := u) (by rw [d2]); rw [d2] at this; exact this
 have hxv : x ∈ z0l (z1g parent (z7r m x) (z0o id u)) := by have := zc6 (id := x.id) (u := z1g parent (z7r m x) (z0o id u)) (by rw [f3]); rw [f3] at this; exact this
 by_cases hx : k ∈ z0i x
 ·obtain ⟨a1, a2, a3⟩ := z5v (id := id) (zn8 fun p hp => zda u x hxu p hp) (z1m d5) (z1m h1) hx
  obtain ⟨b1, b2, b3⟩ := z5v (id := id) (zn8 fun p hp => zda _ x hxv p hp) (z1m d5) hnv hx
  refine ⟨by rw [b1]; rfl, fun _ hne => ⟨(a2 hne).symm.trans (b2 hne), ?_⟩⟩
  have hr : ¬ x.id = k := fun e => hne (e.symm.trans d3)
  exact (a3 hr).symm.trans (b3 hr)
 ·have hr : k ∈ z0i (z0o id u) := (d12 k O).resolve_left hx
  obtain ⟨a1, a2, a3⟩ := z5v (zj4 id id u) (z1m d4) (z1m h1) hr
  have J : zkw id (z0o id u) (z1g parent (z7r m x) (z0o id u)) := by
   have := zeg (id := id) (zyl q x l r) rfl C
   rw [<- e1, <- e4] at this
   exact this
  obtain ⟨b1, b2, b3⟩ := z5v J (z1m d4) hnv hr
  refine ⟨by rw [b1]; rfl, fun _ hne => ⟨(a2 hne).symm.trans (b2 hne), ?_⟩⟩
  by_cases hu : u.id = k
  ·have h0 : (z0o id u).id = k := by rw [(z90 id u).1]; exact hu
   have hv : (z1g parent (z7r m x) (z0o id u)).id = (z0o id u).id := by
    rw [e4]; conv => rhs; rw [e1]
    exact (zai C (x := q.setKids (l ++ x :: r)) (y := q.setKids (l ++ r)) rfl rfl).1
   rw [z78 hu, z78 (hv.trans h0)]
  ·have h0 : ¬ (z0o id u).id = k := by rw [(z90 id u).1]; exact hu
   exact (a3 h0).symm.trans (b3 h0)
theorem zyn {u : T} {id : Idv} {f : T -> T} (h1 : standsT u = true) (hm : id ∈ z0i u) (hf : ∀ q : T, (f q).id = q.id /\ (f q).kids = q.kids) (hs : standsT (z1g id f u) = true) : LRP u (z1g id f u) id [] := by
 obtain ⟨C, e, hq, hpre, _⟩ := focus id u hm
 generalize (z06 id u).1 = q at e hq
 have hpost : id ∉ z44 C := (z3m (x := q) (by rw [<- e]; exact z1m h1) (hq ▸ z2y q)).2
 have e4 : z1g id f u = z2r C (f q) := by rw [e, z68 f hq C hpre hpost]
 have hi : z0i (f q) = z0i q := by rw [z28, z28 q, (hf q).1, (hf q).2]
 have hids : z0i (z1g id f u) = z0i u := by rw [e4, z2v, hi, <- z2v, <- e]
 refine ⟨hs, by rw [<- z2c, <- z2c, hids]; rfl, List.nodup_nil, fun k O => ?_⟩
 have J : zkw id u (z1g id f u) := by
  have := zeg (zym (hf q).1 (hf q).2) (hf q).1 C
  rw [hq, <- e, <- e4] at this
  exact this
 obtain ⟨b1, b2, b3⟩ := z5v J (z1m h1) (z1m hs) O
 refine ⟨by rw [b1]; rfl, fun _ hne => ⟨b2 hne, ?_⟩⟩
 by_cases hu : u.id = k
 ·have hv : (z1g id f u).id = u.id := by
   rw [e4]; conv => rhs; rw [e]
   cases C with
   | hole => exact (hf q).1
   | node t l c r => rfl
  rw [z78 hu, z78 (hv.trans hu)]
 ·exact b3 hu
theorem zyo {u : T} {id : Idv} {l : List Wd} (h : z2z u id l = 0) : LRP u (z1g id (fun q => q.setWords l) u) id [] := by
 obtain ⟨h1, hm, h3, h4, h5⟩ := zki h
 refine zyn h1 hm (fun q => ⟨rfl, rfl⟩) ?_
 obtain ⟨C, e, hq, hpre, _⟩ := focus id u hm
 generalize (z06 id u).1 = q at e hq h4
 have hpost : id ∉ z44 C := (z3m (x := q) (by rw [<- e]; exact z1m h1) (hq ▸ z2y q)).2
 rw [e, z68 (fun q => q.setWords l) hq C hpre hpost]
 rw [e] at h1
 refine zeh h1 rfl rfl rfl ?_ (fun h => h)
 have hr := ((z24 _).1 h1).1
 rw [z3y] at hr
 have ha := (zd3 hr.2).1
 unfold z3j at ha ⊢
 simp only [Bool.and_eq_true, decide_eq_true_eq] at ha ⊢
 obtain ⟨a1, a2, a3, a4, a5⟩ := ha
 refine ⟨a1, a2, a3, ?_, ?_⟩
 ·show ziy l = true
  unfold ziy
  rw [decide_eq_true h5, Bool.true_and, List.all_eq_true]
  intro w hw
  unfold zzn at h3
  have := List.any_eq_false.1 h3 w hw
  simpa using this
 ·rw [if_neg h4] at a5
  rw [if_neg (show ¬ (q.setWords l).kind = 0 from h4)]; exact a5
theorem rel_ok {u : T} {id : Idv} {name : ByteArray} (h : zby u id name = 0) : standsT u = true /\ z4f name = true /\ id ∈ z0i u /\ ¬ (z06 id u).1.kind = 0 /\ z5r u id name = false := by
 unfold zby at h
 split at h
 ·cases h
 rename_i h1
 split at h
 ·cases h
 rename_i h2
 split at h
 ·cases h
 rename_i h3
 split at h
 ·cases h
 rename_i h4
 rw [not_or, Bool.not_eq_false, Bool.not_eq_false] at h1
 rw [Bool.not_eq_false, z33, decide_eq_true_eq] at h2
 exact ⟨h1.1, h1.2, h2, h3, by simpa using h4⟩
theorem zyp {u : T} {id : Idv} {name : ByteArray} (h : zby u id name = 0) : LRP u (z1g id (fun q => q.setLabel name) u) id [] := by
 obtain ⟨h1, h2, hm, h4, h5⟩ := rel_ok h
 refine zyn h1 hm (fun q => ⟨rfl, rfl⟩) ?_
 have alone : ∀ q : T, z3j q = true -> ¬ q.kind = 0 -> z3j (q.setLabel name) = true := fun q ha O => by
  unfold z3j at ha ⊢
  simp only [Bool.and_eq_true, decide_eq_true_eq] at ha ⊢
  obtain ⟨a1, a2, a3, a4, _⟩ := ha
  refine ⟨a1, a2, a3, a4, ?_⟩
  rw [if_neg (show ¬ (q.setLabel name).kind = 0 from O)]; exact h2
 by_cases h0 : u.id = id
 ·rw [z3g h0] at h4
  rw [z84, if_pos h0]
  refine zeh (C := .hole) h1 rfl rfl rfl (alone u (zd3 ((z24 u).1 h1).1).1 h4) (fun _ => trivial)
 ·obtain ⟨C, q, l, x, r, e, hx, hq, n1, n2, hf, hp⟩ := zqw h0 hm
  have hnd := z1m h1
  have hnd' := hnd
  rw [e] at hnd
  have hqs : q.id ∈ z0i (q.setKids (l ++ x :: r)) := by rw [z34]; exact List.mem_cons_self
  obtain ⟨m1, m2⟩ := z3m hnd hqs
  have hxm : id ∈ z0i (q.setKids (l ++ x :: r)) := by rw [z34]; exact List.mem_cons_of_mem _ (zg4.2 (.inr (.inl (hx ▸ z2y x))))
  obtain ⟨k1, k2⟩ := z3m hnd hxm
  have ns := (zh1 (zeb hnd)).1 id (hx ▸ z2y x)
  have hfq : z06 q.id u = (q.setKids (l ++ x :: r), true) := by rw [e, za3 hqs C m1]; exact z3g rfl
  -- the edit at x, seen from above it
  have he : z1g id (fun q => q.setLabel name) u = z2r C (q.setKids (l ++ x.setLabel name :: r)) := by
   have hC2 : u = z2r (zi2 C (.node q l .hole r)) x := by rw [zh8]; exact e
   rw [hC2, z68 (fun q => q.setLabel name) hx _ ?_ ?_, zh8]; rfl
   ·rw [zs6, List.mem_append]
    rintro (h | h)
    ·exact k1 h
    ·simp only [z7b, List.append_nil, List.mem_cons] at h
     rcases h with h | h
     ·exact hq h.symm
     ·exact n2 h
   ·rw [zn7, List.mem_append]
    rintro (h | h)
    ·simp only [z44, List.nil_append] at h
     exact ns.2.2 h
    ·exact k2 h
  rw [he]
  rw [hf] at h4
  have hb : z5r u id name = false := h5
  unfold z5r at hb
  rw [hp, hf, hfq] at hb
  simp only [Bool.true_and, Bool.or_eq_false_iff, decide_eq_false_iff_not] at hb
  obtain ⟨_, hb⟩ := hb
  have htk : (name, x.kind) = (name, x.kind) := rfl
  have hs := h1
  rw [e, z24] at hs
  obtain ⟨u1, u2, u3, u4, u5, u6⟩ := hs
  have hi : z0i (q.setKids (l ++ x.setLabel name :: r)) = z0i (q.setKids (l ++ x :: r)) := by
   rw [z34, z34, List.flatMap_append, List.flatMap_append, List.flatMap_cons, List.flatMap_cons, z28 (x.setLabel name), z28 x]; rfl
  have hdx : depT (x.setLabel name) = depT x := by rw [z4r, z4r x]; rfl
  obtain ⟨hr, O⟩ := zai C (x := q.setKids (l ++ x.setLabel name :: r)) (y := q.setKids (l ++ x :: r)) rfl rfl
  rw [z24]
  refine ⟨?_, ?_, ?_, ?_, by rw [hr, O]; exact u5, ?_⟩
  ·rw [z3y, zcg] at u1 ⊢
   obtain ⟨uC, ⟨a1, a2, a3, a4, a5⟩, uX⟩ := u1
   refine ⟨uC, ⟨a1, a2, a3, a4, ?_⟩, ?_⟩
   ·intro hmem
    obtain ⟨y, hy, O⟩ := List.mem_map.1 hmem
    have hy2 : y ∈ l ++ x :: r := by
     rcases List.mem_append.1 hy with h | h
     ·exact List.mem_append_left _ h
     ·exact List.mem_append_right _ (List.mem_cons_of_mem _ h)
    have := List.any_eq_false.1 hb y hy2
    simp only [Bool.and_eq_true, decide_eq_true_eq, not_and] at this
    exact this (congrArg Prod.fst O) (congrArg Prod.snd O)
   ·have := uX
    rw [z4i] at this ⊢
    simp only [Bool.and_eq_true] at this ⊢
    exact ⟨alone x this.1 h4, this.2⟩
  ·rw [z93, zp4] at u2 ⊢; omega
  ·have hc : cntT (q.setKids (l ++ x.setLabel name :: r)) = cntT (q.setKids (l ++ x :: r)) := by rw [<- z2c, <- z2c, hi]
   rw [z60] at u3 ⊢; omega
  ·rw [z2v, hi, <- z2v]; exact u4
  ·rw [z85, hi, <- z85]; exact u6
theorem move_nn {u : T} {id parent : Idv} {i : Int} (h : z4a u id parent i = 0) : 0 <= i := by
 obtain ⟨_, _, _, _, _, hw⟩ := zk6 h
 unfold z3e at hw
 split at hw
 ·cases hw
 split at hw
 ·cases hw
 split at hw
 ·cases hw
 split at hw
 ·cases hw
 omega
theorem zyq {u : T} {id parent : Idv} {i : Int} (h : z4a u id parent i = 0) : LRP u (z1g parent (z7r i.toNat (z06 id u).1) (z0o id u)) id [] := by
 have h0 := move_nn h
 obtain ⟨m, rfl⟩ := Int.eq_ofNat_of_zero_le h0
 exact lrp_move h
end Tr
end
end Go.Proofs.YtlfohdkfpdkhhaaGreatDoor
namespace Go.Proofs.YtlfohdkfpdkhhaaGreatDoor.Lcs
section
variable {α : Type} [DecidableEq α]
def row (x : α) (f : List α -> Nat) : List α -> Nat
 | [] => 0
 | y :: ys => if x = y then max (max (f (y :: ys)) (row x f ys)) (f ys + 1) else max (f (y :: ys)) (row x f ys)
def len : List α -> List α -> Nat
 | [], _ => 0
 | x :: xs, ys => row x (len xs) ys
theorem zyg : ∀ (a : List α), len a [] = 0
 | [] => rfl
 | _ :: _ => rfl
theorem zfm (x y : α) (xs ys : List α) : len (x :: xs) (y :: ys) = if x = y then max (max (len xs (y :: ys)) (len (x :: xs) ys)) (len xs ys + 1) else max (len xs (y :: ys)) (len (x :: xs) ys) := rfl
def at_ (a b : List α) (i k : Nat) : Nat := len (a.drop i) (b.drop k)
theorem zpa (a b : List α) (i k : Nat) (h : a.length <= i) : at_ a b i k = 0 := by unfold at_; rw [List.drop_eq_nil_of_le h]; rfl
theorem zyh (a b : List α) (i k : Nat) (h : b.length <= k) : at_ a b i k = 0 := by unfold at_; rw [List.drop_eq_nil_of_le h]; exact zyg _
theorem at_step (a b : List α) (i k : Nat) (hi : i < a.length) (O : k < b.length) :
  at_ a b i k = if a[i] = b[k] then max (max (at_ a b (i + 1) k) (at_ a b i (k + 1))) (at_ a b (i + 1) (k + 1) + 1) else max (at_ a b (i + 1) k) (at_ a b i (k + 1)) := by
 unfold at_
 rw [List.drop_eq_getElem_cons hi, List.drop_eq_getElem_cons O, zfm]
theorem zkt : ∀ (a b : List α), len a b <= a.length
 | [], _ => Nat.le_refl 0
 | x :: xs, b => by
  have ih := zkt xs
  have key : ∀ b : List α, len (x :: xs) b <= xs.length + 1 := by
   intro b
   induction b with
   | nil => exact Nat.zero_le _
   | cons y ys ihb =>
    rw [zfm]
    have h1 := ih (y :: ys)
    have h2 := ih ys
    split <;> omega
  simpa using key b
theorem at_le (a b : List α) (i k : Nat) : at_ a b i k <= a.length := by
 have := zkt (a.drop i) (b.drop k)
 simp only [List.length_drop] at this
 unfold at_; omega

def tab (a b : List α) : List Int := (List.range ((a.length + 1) * (b.length + 1))).map fun p => (at_ a b (p / (b.length + 1)) (p % (b.length + 1)) : Int)
theorem idx_lt {n w i k : Nat} (hi : i < n) (O : k < w) : i * w + k < n * w := by
 have := Nat.mul_le_mul_right w (show i + 1 <= n by omega)
 rw [Nat.add_mul] at this; omega
theorem idx_inj {w i k i' k' : Nat} (O : k < w) (hk' : k' < w) (h : i * w + k = i' * w + k') : i = i' /\ k = k' := by
 have h1 : (i * w + k) / w = i := by rw [Nat.mul_comm, Nat.mul_add_div (by omega), Nat.div_eq_of_lt O]; omega
 have h2 : (i' * w + k') / w = i' := by rw [Nat.mul_comm, Nat.mul_add_div (by omega), Nat.div_eq_of_lt hk']; omega
 have : i = i' := by rw [<- h1, <- h2, h]
 subst this
 exact ⟨rfl, by omega⟩
theorem tab_len (a b : List α) : (tab a b).length = (a.length + 1) * (b.length + 1) := by simp [tab]
theorem tab_get (a b : List α) (i k : Nat) (hi : i <= a.length) (O : k <= b.length) : (tab a b)[i * (b.length + 1) + k]? = some (at_ a b i k : Int) := by
 have hlt : i * (b.length + 1) + k < (a.length + 1) * (b.length + 1) := idx_lt (by omega) (by omega)
 unfold tab
 rw [List.getElem?_map, List.getElem?_range hlt, Option.map_some]
 have h1 : (i * (b.length + 1) + k) / (b.length + 1) = i := by rw [Nat.mul_comm, Nat.mul_add_div (by omega), Nat.div_eq_of_lt (by omega)]; omega
 have h2 : (i * (b.length + 1) + k) % (b.length + 1) = k := by rw [Nat.mul_comm, Nat.mul_add_mod, Nat.mod_eq_of_lt (by omega)]
 rw [h1, h2]

def Known (a b : List α) (cs : List Int) (i k : Nat) : Prop :=
 cs.length = (a.length + 1) * (b.length + 1) /\ ∀ i' k', i' <= a.length -> k' <= b.length -> (i < i' \/ (i = i' /\ k <= k') \/ k' = b.length) -> cs[i' * (b.length + 1) + k']? = some (at_ a b i' k' : Int)
theorem known_zero (a b : List α) : Known a b (List.replicate ((a.length + 1) * (b.length + 1)) 0) a.length 0 := by
 refine ⟨by simp, fun i' k' hi O h => ?_⟩
 have hlt : i' * (b.length + 1) + k' < (a.length + 1) * (b.length + 1) := idx_lt (by omega) (by omega)
 rw [List.getElem?_replicate_of_lt hlt]
 rcases h with h | h | h
 ·omega
 ·rw [zpa a b i' k' (by omega)]; rfl
 ·rw [zyh a b i' k' (by omega)]; rfl
theorem known_set {a b : List α} {cs : List Int} {i k : Nat} (hi : i <= a.length) (O : k <= b.length) (h : Known a b cs i (k + 1)) : Known a b (cs.set (i * (b.length + 1) + k) (at_ a b i k : Int)) i k := by
 refine ⟨by simpa using h.1, fun i' k' hi' hk' hc => ?_⟩
 have hlt : i * (b.length + 1) + k < cs.length := by rw [h.1]; exact idx_lt (by omega) (by omega)
 by_cases he : i * (b.length + 1) + k = i' * (b.length + 1) + k'
 ·obtain ⟨rfl, rfl⟩ := idx_inj (by omega) (by omega) he
  rw [List.getElem?_set_self hlt]
 ·rw [List.getElem?_set_ne he]
  refine h.2 i' k' hi' hk' ?_
  rcases hc with hc | ⟨rfl, hc⟩ | hc
  ·exact .inl hc
  ·by_cases hkk : k = k'
   ·subst hkk; exact (he rfl).elim
   ·exact .inr (.inl ⟨rfl, by omega⟩)
  ·exact .inr (.inr hc)
theorem known_row {a b : List α} {cs : List Int} {i : Nat} (h : Known a b cs (i + 1) 0) : Known a b cs i b.length :=
 ⟨h.1, fun i' k' hi' hk' hc => h.2 i' k' hi' hk' (by omega)⟩
theorem known_all {a b : List α} {cs : List Int} (h : Known a b cs 0 0) : cs = tab a b := by
 refine List.ext_getElem? fun p => ?_
 by_cases hp : p < (a.length + 1) * (b.length + 1)
 ·have hw : 0 < b.length + 1 := by omega
  have h1 : p / (b.length + 1) <= a.length := by
   have := (Nat.div_lt_iff_lt_mul hw).2 hp; omega
  have h2 : p % (b.length + 1) <= b.length := by have := Nat.mod_lt p hw; omega
  have h3 : p / (b.length + 1) * (b.length + 1) + p % (b.length + 1) = p := Nat.div_add_mod' p _
  have h4 := h.2 _ _ h1 h2 (by
   rcases Nat.eq_zero_or_pos (p / (b.length + 1)) with h0 | h0
   ·exact .inr (.inl ⟨h0.symm, Nat.zero_le _⟩)
   ·exact .inl h0)
  have h5 := tab_get a b _ _ h1 h2
  rw [h3] at h4 h5
  rw [h4, h5]
 ·rw [List.getElem?_eq_none (by rw [h.1]; omega), List.getElem?_eq_none (by rw [tab_len]; omega)]

def good (a b : List α) (n x y : Nat) : Bool := decide (a[x]? = b[y]?) && decide (at_ a b (x + 1) (y + 1) + 1 = n)
def inRow (a b : List α) (n x y : Nat) : Option Nat := (List.range' y (b.length - y)).find? (good a b n x)
def search (a b : List α) (n k x : Nat) : Option (Nat × Nat) := (List.range' x (a.length - x)).findSome? fun x => (inRow a b n x k).map fun y => (x, y)
def next (a b : List α) (i k : Nat) : Nat × Nat := (search a b (at_ a b i k) k i).getD (a.length, b.length)
theorem inRow_end (a b : List α) (n x y : Nat) (h : b.length <= y) : inRow a b n x y = none := by
 unfold inRow; rw [show b.length - y = 0 by omega]; rfl
theorem inRow_step (a b : List α) (n x y : Nat) (h : y < b.length) : inRow a b n x y = if good a b n x y = true then some y else inRow a b n x (y + 1) := by
 unfold inRow
 rw [show b.length - y = (b.length - (y + 1)) + 1 by omega, List.range'_succ, List.find?_cons]
 split <;> simp_all
theorem search_end (a b : List α) (n k x : Nat) (h : a.length <= x) : search a b n k x = none := by
 unfold search; rw [show a.length - x = 0 by omega]; rfl
theorem search_step (a b : List α) (n k x : Nat) (h : x < a.length) : search a b n k x = match inRow a b n x k with | some y => some (x, y) | none => search a b n k (x + 1) := by
 unfold search
 rw [show a.length - x = (a.length - (x + 1)) + 1 by omega, List.range'_succ, List.findSome?_cons]
 cases inRow a b n x k <;> rfl
theorem good_ex (a b : List α) : ∀ (m i k n : Nat), a.length - i + (b.length - k) <= m -> at_ a b i k = n + 1 -> ∃ x y, i <= x /\ x < a.length /\ k <= y /\ y < b.length /\ good a b (n + 1) x y = true := by
 intro m
 induction m with
 | zero => intro i k n hm h; rw [zpa a b i k (by omega)] at h; omega
 | succ m ih =>
  intro i k n hm h
  by_cases hi : i < a.length
  ·by_cases O : k < b.length
   ·have hs := at_step a b i k hi O
    have r1 : at_ a b (i + 1) k = n + 1 -> ∃ x y, i <= x /\ x < a.length /\ k <= y /\ y < b.length /\ good a b (n + 1) x y = true := by
     intro h1
     obtain ⟨x, y, q1, q2, q3, q4, q5⟩ := ih (i + 1) k n (by omega) h1
     exact ⟨x, y, by omega, q2, q3, q4, q5⟩
    have r2 : at_ a b i (k + 1) = n + 1 -> ∃ x y, i <= x /\ x < a.length /\ k <= y /\ y < b.length /\ good a b (n + 1) x y = true := by
     intro h1
     obtain ⟨x, y, q1, q2, q3, q4, q5⟩ := ih i (k + 1) n (by omega) h1
     exact ⟨x, y, q1, q2, by omega, q4, q5⟩
    by_cases he : a[i] = b[k]
    ·rw [if_pos he] at hs
     by_cases h3 : at_ a b (i + 1) (k + 1) + 1 = n + 1
     ·refine ⟨i, k, Nat.le_refl _, hi, Nat.le_refl _, O, ?_⟩
      unfold good
      rw [List.getElem?_eq_getElem hi, List.getElem?_eq_getElem O, he]
      simp [h3]
     ·by_cases h1 : at_ a b (i + 1) k = n + 1
      ·exact r1 h1
      ·exact r2 (by clear r1 r2 ih; omega)
    ·rw [if_neg he] at hs
     by_cases h1 : at_ a b (i + 1) k = n + 1
     ·exact r1 h1
     ·exact r2 (by clear r1 r2 ih; omega)
   ·rw [zyh a b i k (by omega)] at h; omega
  ·rw [zpa a b i k (by omega)] at h; omega
theorem zu7 {a b : List α} {n x k y : Nat} (h : inRow a b n x k = some y) : k <= y /\ y < b.length /\ good a b n x y = true := by
 unfold inRow at h
 have h1 := List.mem_of_find?_eq_some h
 have h2 := List.find?_some h
 simp only [List.mem_range'_1] at h1
 exact ⟨by omega, by omega, h2⟩
theorem zpb {a b : List α} {n k i : Nat} {r : Nat × Nat} (h : search a b n k i = some r) : i <= r.1 /\ r.1 < a.length /\ k <= r.2 /\ r.2 < b.length /\ good a b n r.1 r.2 = true := by
 unfold search at h
 obtain ⟨x, hx, hr⟩ := List.exists_of_findSome?_eq_some h
 simp only [List.mem_range'_1] at hx
 simp only [Option.map_eq_some_iff] at hr
 obtain ⟨y, hy, rfl⟩ := hr
 obtain ⟨q1, q2, q3⟩ := zu7 hy
 exact ⟨by omega, by omega, q1, q2, q3⟩
theorem search_none {a b : List α} {n k i : Nat} (h : search a b n k i = none) {x y : Nat} (hx : i <= x) (hx' : x < a.length) (hy : k <= y) (hy' : y < b.length) : good a b n x y = false := by
 unfold search at h
 rw [List.findSome?_eq_none_iff] at h
 have h1 := h x (by simp only [List.mem_range'_1]; omega)
 simp only [Option.map_eq_none_iff] at h1
 unfold inRow at h1
 rw [List.find?_eq_none] at h1
 have := h1 y (by simp only [List.mem_range'_1]; omega)
 simpa using this
theorem next_good (a b : List α) (i k n : Nat) (h : at_ a b i k = n + 1) : i <= (next a b i k).1 /\ (next a b i k).1 < a.length /\ k <= (next a b i k).2 /\ (next a b i k).2 < b.length /\ a[(next a b i k).1]? = b[(next a b i k).2]? /\ at_ a b ((next a b i k).1 + 1) ((next a b i k).2 + 1) = n := by
 unfold next
 cases hs : search a b (at_ a b i k) k i with
 | none =>
  obtain ⟨x, y, q1, q2, q3, q4, q5⟩ := good_ex a b _ i k n (Nat.le_refl _) h
  rw [h] at hs
  rw [search_none hs q1 q2 q3 q4] at q5; cases q5
 | some r =>
  obtain ⟨q1, q2, q3, q4, q5⟩ := zpb hs
  unfold good at q5
  simp only [Bool.and_eq_true, decide_eq_true_eq] at q5
  rw [Option.getD_some]
  exact ⟨q1, q2, q3, q4, q5.1, by omega⟩
def pairsF (a b : List α) : Nat -> Nat -> Nat -> List (Nat × Nat)
 | 0, _, _ => []
 | n + 1, i, k => next a b i k :: pairsF a b n ((next a b i k).1 + 1) ((next a b i k).2 + 1)
def pairsFrom (a b : List α) (i k : Nat) : List (Nat × Nat) := pairsF a b (at_ a b i k) i k
theorem pairsFrom_nil (a b : List α) (i k : Nat) (h : at_ a b i k = 0) : pairsFrom a b i k = [] := by unfold pairsFrom; rw [h]; rfl
theorem pairsFrom_cons (a b : List α) (i k : Nat) (h : 0 < at_ a b i k) : pairsFrom a b i k = next a b i k :: pairsFrom a b ((next a b i k).1 + 1) ((next a b i k).2 + 1) := by
 obtain ⟨n, hn⟩ : ∃ n, at_ a b i k = n + 1 := ⟨at_ a b i k - 1, by omega⟩
 have h1 := (next_good a b i k n hn).2.2.2.2.2
 unfold pairsFrom
 rw [hn, h1]; rfl
def pairs (a b : List α) : List (Nat × Nat) := if 256 < a.length \/ 256 < b.length then [] else pairsFrom a b 0 0
end
end Go.Proofs.YtlfohdkfpdkhhaaGreatDoor.Lcs
namespace Go.Proofs.YtlfohdkfpdkhhaaGreatDoor
open _root_.Go.Proofs.Tryz
section
open Abs Facts
theorem zr8 {α β : Type} (f : α -> β) (l : List α) (i : Nat) (x : α) : (l.map f).set i (f x) = (l.set i x).map f := by simp
attribute [local irreducible] awp
theorem pc36 (i k w : Nat) (cs : List Int) (v : Int) (hv : cs[i * w + k]? = some v) (hc : cs.length <= 100000) : PC prog 199 [.int .i64 i, .int .i64 k, .rptr (zl5 cs), .rptr (.int .i64 w)] (.int .i64 v) := by
 obtain ⟨hlt, hv'⟩ := List.getElem?_eq_some_iff.1 hv
 refine z14 1 (by simp only [pureD.pureL, pureD, z8k, Bool.and_self]) rfl (z0z [] func199 rfl (by decide +kernel) rfl ?_)
 show awp _ _ (Code.seq _ _) _ _
 have w1 : IntKind.i64.wrap ((i : Int) * (w : Int)) = ((i * w : Nat) : Int) := by rw [<- Int.natCast_mul]; exact z6e (by omega)
 have w2 : IntKind.i64.wrap (((i * w : Nat) : Int) + (k : Int)) = ((i * w + k : Nat) : Int) := by rw [<- Int.natCast_add]; exact z6e (by omega)
 have i1 := z7t (D.int .i64) cs _ hlt
 (refine zqh fun K J => ?_); (simp only [go_sem, Nat.reduceBEq, Nat.reduceBeqDiff, Nat.reduceEqDiff, ↓reduceIte, reduceCtorEq, Nat.reduceAdd, Nat.reduceMul, Nat.reduceLeDiff, Nat.reduceLT, Int.reduceLT, Int.reduceLE, Int.reduceEq]); (refine J _ ?_); (clear J K)
 (refine zqh fun K J => ?_); (simp only [go_sem, Nat.reduceBEq, Nat.reduceBeqDiff, Nat.reduceEqDiff, ↓reduceIte, reduceCtorEq, Nat.reduceAdd, Nat.reduceMul, Nat.reduceLeDiff, Nat.reduceLT, Int.reduceLT, Int.reduceLE, Int.reduceEq, zl5, w1, w2, i1]); (refine J _ ?_); (clear J K)
 (refine zqn ?_); (refine Exists.intro _ (And.intro rfl ?_))
 exact z1k hv'
end
section
open Abs Facts
attribute [local irreducible] awp
theorem rc36 {H : HM} {nx : Nat} (i k w n : Nat) (cs : List Int) (v : Int) (hL : H 2 = some (.box 155 [.osl 1 n])) (hR : H 1 = some (.row 3 n (cs.map (D.int .i64)))) (hW : H 0 = some (.box 3 [.int .i64 (w : Int)])) (hn : cs.length = n)
  (hv : cs[i * w + k]? = some v) (hc : cs.length <= 100000) : RC prog 199 [.int .i64 i, .int .i64 k, .ptr 2 0, .ptr 0 0] H nx (.int .i64 v) := by
 refine PC.borrow (pc36 i k w cs v hv hc) rfl 3 ?_
 refine z00 (z02 _ rfl) (z00 (z02 _ rfl) (z00 ?_ (z00 ?_ z0d)))
 ·exact z1d 2 hL zv4 (za1 0 hR z40 z9z (by simpa using hn) (z0r (fun _ => rfl) _))
 ·exact z1d 2 hW z40 (z02 _ rfl)
set_option maxHeartbeats 2000000 in
theorem pc28 (a b : List ByteArray) (ha : a.length <= 256) (hb : b.length <= 256) : PC prog 163 [z2j a, z2j b] (.fn 199 [.rptr (zl5 (Lcs.tab a b)), .rptr (.int .i64 ((b.length + 1 : Nat) : Int))]) := by
 refine z14 4 (by simp only [pureD.pureL, z2k, Bool.and_self]) (by simp only [pureD, pureD.pureL, z8k, Bool.and_self]) (z0z [] func163 rfl (by decide +kernel) rfl ?_)
 show awp _ _ (Code.seq _ _) _ _
 have w1 : IntKind.i64.wrap ((b.length : Int) + 1) = ((b.length + 1 : Nat) : Int) := z6e (by omega)
 have w2 : IntKind.i64.wrap ((a.length : Int) + 1) = ((a.length + 1 : Nat) : Int) := z6e (by omega)
 have hm : (a.length + 1) * (b.length + 1) <= 66049 := Nat.mul_le_mul (show a.length + 1 <= 257 by omega) (show b.length + 1 <= 257 by omega)
 have w3 : IntKind.i64.wrap (((a.length + 1 : Nat) : Int) * ((b.length + 1 : Nat) : Int)) = (((a.length + 1) * (b.length + 1) : Nat) : Int) := by rw [<- Int.natCast_mul]; exact z6e (by omega)
 have g1 : (0 : Int) <= (((a.length + 1) * (b.length + 1) : Nat) : Int) := by omega
 have g2 : (a.length + 1) * (b.length + 1) * 8 <= 140737488355328 := by omega
 have g3 : (((a.length + 1) * (b.length + 1) : Nat) : Int) <= 9223372036854775807 := by omega
 (refine zqh fun K J => ?_); (simp only [go_sem, Nat.reduceBEq, Nat.reduceBeqDiff, Nat.reduceEqDiff, ↓reduceIte, reduceCtorEq, Nat.reduceAdd, Nat.reduceMul, Nat.reduceLeDiff, Nat.reduceLT, Int.reduceLT, Int.reduceLE, Int.reduceEq]); (refine J _ ?_); (clear J K)
 repeat refine zqj ?_
 (refine zqh fun K J => ?_); (simp only [go_sem, Nat.reduceBEq, Nat.reduceBeqDiff, Nat.reduceEqDiff, ↓reduceIte, reduceCtorEq, Nat.reduceAdd, Nat.reduceMul, Nat.reduceLeDiff, Nat.reduceLT, Int.reduceLT, Int.reduceLE, Int.reduceEq, z2j, w1]); (refine J _ ?_); (clear J K)
 repeat refine zqj ?_
 (refine zqh fun K J => ?_); (simp only [go_sem, Nat.reduceBEq, Nat.reduceBeqDiff, Nat.reduceEqDiff, ↓reduceIte, reduceCtorEq, Nat.reduceAdd, Nat.reduceMul, Nat.reduceLeDiff, Nat.reduceLT, Int.reduceLT, Int.reduceLE, Int.reduceEq, z2j, w1, w2, w3, g1, g2, g3, zjp (D.int .i64) 0 ((a.length + 1) * (b.length + 1))]); (refine J _ ?_); (clear J K)
 repeat refine zqj ?_
 (refine zqh fun K J => ?_); (simp only [go_sem, Nat.reduceBEq, Nat.reduceBeqDiff, Nat.reduceEqDiff, ↓reduceIte, reduceCtorEq, Nat.reduceAdd, Nat.reduceMul, Nat.reduceLeDiff, Nat.reduceLT, Int.reduceLT, Int.reduceLE, Int.reduceEq]); (refine J _ ?_); (clear J K)
 have w4 : IntKind.i64.wrap ((a.length : Int) - 1) = (a.length : Int) - 1 := z6e (by omega)
 have w5 : IntKind.i64.wrap ((b.length : Int) - 1) = (b.length : Int) - 1 := z6e (by omega)
 repeat refine zqj ?_
 (refine zqh fun K J => ?_); (simp only [go_sem, Nat.reduceBEq, Nat.reduceBeqDiff, Nat.reduceEqDiff, ↓reduceIte, reduceCtorEq, Nat.reduceAdd, Nat.reduceMul, Nat.reduceLeDiff, Nat.reduceLT, Int.reduceLT, Int.reduceLE, Int.reduceEq, z2j, w4]); (refine J _ ?_); (clear J K)
 refine z3k fun K J => ?_
 refine zqi (zbb (fun n st => ∃ cs : List Int, n <= a.length /\ st.t 0 = z2j a /\ st.t 1 = z2j b /\ st.t 5 = .ptr 0 0 /\ st.t 6 = .ptr 2 0 /\ st.t 7 = .fn 199 [.ptr 2 0, .ptr 0 0] /\ st.t 8 = .int .i64 ((n : Int) - 1) /\
   st.H 0 = some (.box 3 [.int .i64 ((b.length + 1 : Nat) : Int)]) /\ st.H 1 = some (.row 3 ((a.length + 1) * (b.length + 1)) (cs.map (D.int .i64))) /\ st.H 2 = some (.box 155 [.osl 1 ((a.length + 1) * (b.length + 1))]) /\
   Lcs.Known a b cs n 0) a.length ?_ ?_)
 ·exact ⟨List.replicate ((a.length + 1) * (b.length + 1)) 0, Nat.le_refl _, rfl, rfl, rfl, rfl, rfl, rfl, rfl, rfl, rfl, Lcs.known_zero a b⟩
 rintro n st ⟨cs, hn, h0, h1, h5, h6, h7, h8, hH0, hH1, hH2, O⟩
 repeat refine zqj ?_
 (refine zqh fun K J => ?_); (simp only [go_sem, Nat.reduceBEq, Nat.reduceBeqDiff, Nat.reduceEqDiff, ↓reduceIte, reduceCtorEq, Nat.reduceAdd, Nat.reduceMul, Nat.reduceLeDiff, Nat.reduceLT, Int.reduceLT, Int.reduceLE, Int.reduceEq, h8]); (refine J _ ?_); (clear J K)
 refine z3k fun K2 hK2 => ?_
 (refine zqm _ rfl (fun hc => ?_) (fun hc => ?_)) <;> (simp only [z07] at hc)
 ·obtain ⟨i, rfl⟩ : ∃ i, n = i + 1 := ⟨n - 1, by omega⟩
  have h8' : st.t 8 = .int .i64 (i : Int) := by rw [h8]; congr 1; omega
  refine zqk (hK2 _ ?_); clear hK2 K2 h8
  repeat refine zqj ?_
  refine z3k fun K2 hK2 => ?_
  refine zqi ?_
  repeat refine zqj ?_
  (refine zqh fun K J => ?_); (simp only [go_sem, Nat.reduceBEq, Nat.reduceBeqDiff, Nat.reduceEqDiff, ↓reduceIte, reduceCtorEq, Nat.reduceAdd, Nat.reduceMul, Nat.reduceLeDiff, Nat.reduceLT, Int.reduceLT, Int.reduceLE, Int.reduceEq, h1, z2j, w5]); (refine J _ ?_); (clear J K)
  refine zqi (zbb (fun m st => ∃ cs : List Int, m <= b.length /\ st.t 0 = z2j a /\ st.t 1 = z2j b /\ st.t 5 = .ptr 0 0 /\ st.t 6 = .ptr 2 0 /\ st.t 7 = .fn 199 [.ptr 2 0, .ptr 0 0] /\ st.t 8 = .int .i64 (i : Int) /\ st.t 9 = .int .i64 ((m : Int) - 1) /\
   st.H 0 = some (.box 3 [.int .i64 ((b.length + 1 : Nat) : Int)]) /\ st.H 1 = some (.row 3 ((a.length + 1) * (b.length + 1)) (cs.map (D.int .i64))) /\ st.H 2 = some (.box 155 [.osl 1 ((a.length + 1) * (b.length + 1))]) /\
   Lcs.Known a b cs i m) b.length ?_ ?_)
  ·exact ⟨cs, Nat.le_refl _, h0, h1, h5, h6, h7, h8', rfl, hH0, hH1, hH2, Lcs.known_row O⟩
  clear h0 h1 h5 h6 h7 h8' hH0 hH1 hH2 O
  rintro m st ⟨cs, hm', h0, h1, h5, h6, h7, h8, h9, hH0, hH1, hH2, O⟩
  repeat refine zqj ?_
  (refine zqh fun K J => ?_); (simp only [go_sem, Nat.reduceBEq, Nat.reduceBeqDiff, Nat.reduceEqDiff, ↓reduceIte, reduceCtorEq, Nat.reduceAdd, Nat.reduceMul, Nat.reduceLeDiff, Nat.reduceLT, Int.reduceLT, Int.reduceLE, Int.reduceEq, h9]); (refine J _ ?_); (clear J K)
  refine z3k fun K3 hK3 => ?_
  (refine zqm _ rfl (fun hc => ?_) (fun hc => ?_)) <;> (simp only [z07] at hc)
  ·obtain ⟨k, rfl⟩ : ∃ k, m = k + 1 := ⟨m - 1, by omega⟩
   have h9' : st.t 9 = .int .i64 (k : Int) := by rw [h9]; congr 1; omega
   refine zqk (hK3 _ ?_); clear hK3 K3 h9
   repeat refine zqj ?_
   refine z3k fun K3 hK3 => ?_
   refine zqi ?_
   repeat refine zqj ?_
   have wi : IntKind.i64.wrap ((i : Int) + 1) = ((i + 1 : Nat) : Int) := z6e (by omega)
   have wk : IntKind.i64.wrap ((k : Int) + 1) = ((k + 1 : Nat) : Int) := z6e (by omega)
   have v1 := O.2 (i + 1) k (by omega) (by omega) (.inl (by omega))
   have v2 := O.2 i (k + 1) (by omega) (by omega) (.inr (.inl ⟨rfl, by omega⟩))
   have v3 := O.2 (i + 1) (k + 1) (by omega) (by omega) (.inl (by omega))
   have l1 := Lcs.at_le a b (i + 1) k
   have l2 := Lcs.at_le a b i (k + 1)
   have l3 := Lcs.at_le a b (i + 1) (k + 1)
   have hcl : cs.length <= 100000 := by rw [O.1]; omega
   refine zqh fun K J => ?_
   simp only [go_sem, Nat.reduceBEq, Nat.reduceBeqDiff, Nat.reduceEqDiff, ↓reduceIte, reduceCtorEq, Nat.reduceAdd, Nat.reduceMul, Nat.reduceLeDiff, Nat.reduceLT, Int.reduceLT, Int.reduceLE, Int.reduceEq, h7, h8, h9', wi, wk]
   refine z0w (rc36 (i + 1) k (b.length + 1) _ cs _ hH2 hH1 hH0 O.1 v1 hcl) ?_
   simp only [go_sem, Nat.reduceBEq, Nat.reduceBeqDiff, Nat.reduceEqDiff, ↓reduceIte, reduceCtorEq, Nat.reduceAdd, Nat.reduceMul, Nat.reduceLeDiff, Nat.reduceLT, Int.reduceLT, Int.reduceLE, Int.reduceEq, h7, h8, h9', wi, wk]
   refine z0w (rc36 i (k + 1) (b.length + 1) _ cs _ hH2 hH1 hH0 O.1 v2 hcl) ?_
   simp only [go_sem, Nat.reduceBEq, Nat.reduceBeqDiff, Nat.reduceEqDiff, ↓reduceIte, reduceCtorEq, Nat.reduceAdd, Nat.reduceMul, Nat.reduceLeDiff, Nat.reduceLT, Int.reduceLT, Int.reduceLE, Int.reduceEq, h7, h8, h9', wi, wk]
   refine J _ ?_
   clear J K
   have hlt : i * (b.length + 1) + k < (a.length + 1) * (b.length + 1) := Lcs.idx_lt (by omega) (by omega)
   have wm : IntKind.i64.wrap ((i : Int) * ((b.length + 1 : Nat) : Int)) = ((i * (b.length + 1) : Nat) : Int) := by rw [<- Int.natCast_mul]; exact z6e (by omega)
   have wp : IntKind.i64.wrap (((i * (b.length + 1) : Nat) : Int) + (k : Int)) = ((i * (b.length + 1) + k : Nat) : Int) := z6e (by omega)
   have hin : ((i * (b.length + 1) + k : Nat) : Int) < (((a.length + 1) * (b.length + 1) : Nat) : Int) := by omega
   have hin2 : i * (b.length + 1) + k + 1 <= (a.length + 1) * (b.length + 1) := by omega
   have hkl := O.1
   refine z3k fun K4 hK4 => ?_
   have tail : ∀ st' : St, st'.t 0 = z2j a -> st'.t 1 = z2j b -> st'.t 5 = .ptr 0 0 -> st'.t 6 = .ptr 2 0 -> st'.t 7 = .fn 199 [.ptr 2 0, .ptr 0 0] -> st'.t 8 = .int .i64 (i : Int) -> st'.t 9 = .int .i64 (k : Int) -> st'.t 10 = .int .i64 (Lcs.at_ a b i k : Int) ->
     st'.H 0 = some (.box 3 [.int .i64 ((b.length + 1 : Nat) : Int)]) -> st'.H 1 = some (.row 3 ((a.length + 1) * (b.length + 1)) (cs.map (D.int .i64))) -> st'.H 2 = some (.box 155 [.osl 1 ((a.length + 1) * (b.length + 1))]) -> K4 st' := by
    intro st' h0 h1 h5 h6 h7 h8 h9 h10 hH0 hH1 hH2
    refine hK4 _ ?_
    (refine z99 ?_); (simp only [go_sem, Nat.reduceBEq, Nat.reduceBeqDiff, Nat.reduceEqDiff, ↓reduceIte, reduceCtorEq, Nat.reduceAdd, Nat.reduceMul, Nat.reduceLeDiff, Nat.reduceLT, Int.reduceLT, Int.reduceLE, Int.reduceEq, h5, h6, h8, h9, h10, hH0, hH1, hH2, wm, wp, hin, hin2, hkl, zr8])
    refine (show K3 _ from hK3 _ ?_)
    have wk2 : IntKind.i64.wrap ((k : Int) - 1) = (k : Int) - 1 := z6e (by omega)
    (refine z99 ?_); (simp only [go_sem, Nat.reduceBEq, Nat.reduceBeqDiff, Nat.reduceEqDiff, ↓reduceIte, reduceCtorEq, Nat.reduceAdd, Nat.reduceMul, Nat.reduceLeDiff, Nat.reduceLT, Int.reduceLT, Int.reduceLE, Int.reduceEq, h9, wk2])
    exact ⟨k, by omega, cs.set (i * (b.length + 1) + k) (Lcs.at_ a b i k : Int), by omega, h0, h1, h5, h6, h7, h8, rfl, hH0, rfl, hH2, Lcs.known_set (by omega) (by omega) O⟩
   have i1 := z7t D.str a i (by omega)
   have i2 := z7t D.str b k (by omega)
   have hst := Lcs.at_step a b i k (by omega) (by omega)
   (refine zqe (by decide +kernel) fun K J => ?_); (simp only [go_sem, Nat.reduceBEq, Nat.reduceBeqDiff, Nat.reduceEqDiff, ↓reduceIte, reduceCtorEq, Nat.reduceAdd, Nat.reduceMul, Nat.reduceLeDiff, Nat.reduceLT, Int.reduceLT, Int.reduceLE, Int.reduceEq, h0, h1, h8, h9', i1, i2, z2j]); (refine J _ ?_); (clear J K)
   (refine zqm _ rfl (fun hc => ?_) (fun hc => ?_)) <;> (simp only [z07] at hc)
   ·have w6 : IntKind.i64.wrap ((Lcs.at_ a b (i + 1) (k + 1) : Int) + 1) = (Lcs.at_ a b (i + 1) (k + 1) : Int) + 1 := z6e (by omega)
    rw [if_pos hc] at hst
    refine z99 ?_
    simp only [go_sem, Nat.reduceBEq, Nat.reduceBeqDiff, Nat.reduceEqDiff, ↓reduceIte, reduceCtorEq, Nat.reduceAdd, Nat.reduceMul, Nat.reduceLeDiff, Nat.reduceLT, Int.reduceLT, Int.reduceLE, Int.reduceEq, h7, h8, h9', wi, wk]
    refine z0w (rc36 (i + 1) (k + 1) (b.length + 1) _ cs _ hH2 hH1 hH0 O.1 v3 hcl) ?_
    simp only [go_sem, Nat.reduceBEq, Nat.reduceBeqDiff, Nat.reduceEqDiff, ↓reduceIte, reduceCtorEq, Nat.reduceAdd, Nat.reduceMul, Nat.reduceLeDiff, Nat.reduceLT, Int.reduceLT, Int.reduceLE, Int.reduceEq, h7, h8, h9', wi, wk, w6]
    refine (show K4 _ from tail _ h0 h1 h5 h6 h7 h8 h9' ?_ hH0 hH1 hH2)
    show D.int .i64 _ = D.int .i64 _
    rw [hst]; congr 1; omega
   ·rw [if_neg hc] at hst
    refine zqk (tail _ h0 h1 h5 h6 h7 h8 h9' ?_ hH0 hH1 hH2)
    show D.int .i64 _ = D.int .i64 _
    rw [hst]; congr 1; omega
  ·refine zql (show K2 _ from hK2 _ ?_)
   obtain rfl : m = 0 := by omega
   have wi2 : IntKind.i64.wrap ((i : Int) - 1) = (i : Int) - 1 := z6e (by omega)
   (refine z99 ?_); (simp only [go_sem, Nat.reduceBEq, Nat.reduceBeqDiff, Nat.reduceEqDiff, ↓reduceIte, reduceCtorEq, Nat.reduceAdd, Nat.reduceMul, Nat.reduceLeDiff, Nat.reduceLT, Int.reduceLT, Int.reduceLE, Int.reduceEq, h8, wi2])
   exact ⟨i, by omega, cs, by omega, h0, h1, h5, h6, h7, rfl, hH0, hH1, hH2, O⟩
 ·refine zql (show K _ from J _ ?_)
  obtain rfl : n = 0 := by omega
  have hcs := Lcs.known_all O
  subst hcs
  (refine zqh fun K J => ?_); (simp only [go_sem, Nat.reduceBEq, Nat.reduceBeqDiff, Nat.reduceEqDiff, ↓reduceIte, reduceCtorEq, Nat.reduceAdd, Nat.reduceMul, Nat.reduceLeDiff, Nat.reduceLT, Int.reduceLT, Int.reduceLE, Int.reduceEq, h7]); (refine J _ ?_); (clear J K)
  (refine zqn ?_); (refine Exists.intro _ (And.intro rfl ?_))
  refine z3i (zcc 3 rfl (z00 ?_ (z00 ?_ z0d)))
  ·exact z1d 2 hH2 (by first | rfl | kernel_rfl) (za1 0 hH1 z40 z9z (by simpa using Lcs.tab_len a b) (z0r (fun _ => rfl) _))
  ·exact z1d 2 hH0 z40 (z02 _ rfl)
end
end Go.Proofs.YtlfohdkfpdkhhaaGreatDoor
