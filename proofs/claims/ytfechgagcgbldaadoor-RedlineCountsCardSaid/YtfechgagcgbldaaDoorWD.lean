import Derived.Test.YtfechgagcgbldaaDoorWC
import Derived.Maps.RangeRun
/-
 Lemmas of the claim. No condition but those that each names.
-/
set_option linter.unusedSimpArgs false
set_option linter.unusedVariables false
set_option maxRecDepth 100000
set_option maxHeartbeats 8000000
set_option linter.unusedSectionVars false
namespace Go.Proofs.YtfechgagcgbldaaDoor
open _root_.Go.Proofs.Tryd
section
open Abs Facts Tr
attribute [local irreducible] awp
def zzf (c : Int × ByteArray) : D := .agg [.int .i64 c.1, .str c.2]
def ztl (l : List (Int × ByteArray)) : List (D × D) := l.map fun c => (zzf c, .bool true)
def setI (l : List Idv) : List (D × D) := l.map fun c => (z6e c, .bool true)
theorem eqK_C (a b : Int × ByteArray) : eqK prog 115 (zzf a) (zzf b) = some (decide (a = b)) := by
 have h : ∀ c, z5p prog 115 (zzf c) = true := fun c => by simp only [zzf, z5p, zsp, zve]; rfl
 unfold eqK
 rw [if_pos ⟨h a, h b⟩]
 refine (eqU115 a.1 b.1 a.2 b.2).trans ?_
 obtain ⟨a1, a2⟩ := a; obtain ⟨b1, b2⟩ := b
 simp [Prod.mk.injEq]
theorem zx1 (a b : Idv) : eqK prog 23 (z6e a) (z6e b) = some (decide (a = b)) := by
 have h : ∀ c, z5p prog 23 (z6e c) = true := fun c => by simp only [z6e, cellsId, z5p, zci, zhe]; rfl
 unfold eqK
 rw [if_pos ⟨h a, h b⟩]
 refine (eqU23 a.act b.act a.item b.item a.n b.n).trans ?_
 rw [idEq']
theorem zw3 (c : Int × ByteArray) (l : List (Int × ByteArray)) : (c ∈ l -> ∃ n, z2y prog 115 (.agg [.int .i64 c.1, .str c.2]) (ztl l) = some (some (n, .bool true))) /\ (c ∉ l -> z2y prog 115 (.agg [.int .i64 c.1, .str c.2]) (ztl l) = some none) := by
 haveI : DecidableEq (Int × ByteArray) := fun a b => decidable_of_iff (a.1 = b.1 /\ a.2 = b.2) ⟨fun h => Prod.ext h.1 h.2, fun h => by subst h; exact ⟨rfl, rfl⟩⟩
 have h := z6h zzf (fun a b => (eqK_C a b).trans (by congr 1; exact decide_eq_decide.2 Iff.rfl)) (fun _ => .bool true) c l
 refine ⟨fun hm => ?_, fun hm => ?_⟩
 ·rw [if_pos hm] at h; exact ⟨_, h⟩
 ·rw [if_neg hm] at h; exact h
theorem zbe (c : Idv) (l : List Idv) : z2y prog 23 (.agg [.int .i64 c.act, .int .i64 c.item, .int .i64 c.n]) (setI l) = some (if c ∈ l then some (l.idxOf c, .bool true) else none) := z6h z6e zx1 (fun _ => .bool true) c l
theorem zpa (l : List (Int × ByteArray)) (c : Int × ByteArray) : ztl l ++ [(.agg [.int .i64 c.1, .str c.2], .bool true)] = ztl (l ++ [c]) := by unfold ztl; rw [List.map_append]; rfl
theorem z9f (l : List Idv) (c : Idv) : setI l ++ [(.agg [.int .i64 c.act, .int .i64 c.item, .int .i64 c.n], .bool true)] = setI (l ++ [c]) := by unfold setI; rw [List.map_append]; rfl
theorem zer {l : List Idv} {c : Idv} (hn : l.Nodup) (h : c ∈ l) : z61 (setI l) (l.idxOf c) (.bool true) = setI l := by
 unfold setI
 rw [z3u z6e (fun _ => .bool true) c (.bool true) l hn h]
 refine List.map_congr_left fun a _ => ?_
 simp
namespace Tr
theorem zg3 : ∀ t : T, szB t = true -> ∀ x ∈ nodesT t, szB x = true := by
 refine z6x fun t ih h x hx => ?_
 rw [z17] at hx
 rcases List.mem_cons.1 hx with rfl | hx
 ·exact h
 ·obtain ⟨k, O, hx⟩ := List.mem_flatMap.1 hx
  obtain ⟨_, _, _, _, _, _, h4⟩ := (z4i t).1 h
  exact ih k O (h4 k O) x hx
theorem ztm {l : List Idv} (hne : l ≠ []) : (l.all fun i => decide (i = Idv.zero)) = (decide (Idv.zero ∈ z15 l) && decide ((z15 l).length = 1)) := by
 obtain ⟨h1, h2, _, _⟩ := z2w l
 rw [Bool.eq_iff_iff]
 simp only [List.all_eq_true, Bool.and_eq_true, decide_eq_true_eq]
 constructor
 ·intro h
  obtain ⟨x, hx⟩ := List.exists_mem_of_ne_nil l hne
  have hz : Idv.zero ∈ z15 l := by rw [<- h x hx]; exact (h2 x).2 hx
  refine ⟨hz, ?_⟩
  have ha : ∀ y ∈ z15 l, y = Idv.zero := fun y hy => h y ((h2 y).1 hy)
  generalize z15 l = o at h1 hz ha
  match o, h1, hz, ha with
  | [], _, hz, _ => cases hz
  | [a], _, _, _ => rfl
  | a :: b :: r, h1, _, ha =>
   have e1 := ha a (by simp)
   have e2 := ha b (by simp)
   rw [e1, e2] at h1
   simp at h1
 ·rintro ⟨hz, hl⟩ x hx
  have hm := (h2 x).2 hx
  generalize z15 l = o at hz hl hm
  match o, hl, hz, hm with
  | [a], _, hz, hm =>
   rw [List.mem_singleton] at hz hm
   rw [hm, <- hz]
theorem zpb {p q : Prop} [Decidable p] [Decidable q] : (decide p == decide q) = decide (q ↔ p) := by
 by_cases hp : p <;> by_cases hq : q <;> simp [hp, hq]
def zx2 (t : T) : Bool := (if t.kind = 0 then decide (t.label = z77) && decide (t.head.length + t.words.length = 0) else decide (zkc t.kind ≠ z77) && (z7h t.label && (zlu t.head && zlu t.words)))
def zcx (t : T) : Bool := zx2 t && ((t.kids.all fun k => z46 t.kind k.kind) && (decide ((t.kids.map zce).Nodup) && decide (t.kids.length <= 64)))
end Tr
theorem ztn (t : T) (hs : szB t = true) : PC prog 53 [z1n t] (.bool (zcx t)) := by
  obtain ⟨h0, h1, g1, h2, g2, h3, h4⟩ := (z4i t).1 hs
  have k1 := zkd t.kind
  have k2 := zg8 t.label (by unfold maxLen; omega)
  have k3 := zr8 t.head h1 (fun w hw => by have := g1 w hw; unfold maxLen; omega)
  have k4 := zr8 t.words h2 (fun w hw => by have := g2 w hw; unfold maxLen; omega)
  refine z3l 1 (by simp only [pureD.pureL, z0n, Bool.and_self]) rfl (z2o [] func53 rfl (by decide +kernel) rfl ?_)
  show awp _ _ (Code.seq _ _) _ _
  repeat' (first | refine nxt ?_ | ((first | refine zqh fun K hK => ?_ | refine zqs (k1) ?_ | refine zqs (k2) ?_ | refine zqs (k3) ?_ | refine zqs (k4) ?_); (simp (disch := omega) only [go_sem, Nat.reduceBEq, ↓reduceIte, reduceCtorEq, Nat.reduceAdd, z0t])) | (refine zqd _ rfl ?_ ?_ <;> intro hc <;> (first | (cases hc; done) | ((try simp only [z0e] at hc); (try omega)))) | refine zqu (by simp only [go_sem]; rfl) rfl ?_ | (refine hK _ ?_; clear hK K) | (refine zqf (fun hb => ?_) (fun hb => ?_) <;> (have hb2 := hb; try simp only [z0e] at hb2) <;> ((first | have F : (_ : Bool) = _ := hb2 | have F := eq_false hb2 | have F := eq_true hb2); (simp (disch := omega) only [go_sem, Nat.reduceBEq, ↓reduceIte, reduceCtorEq, Nat.reduceAdd, F, z1x]); clear hb F; (try omega))))
  all_goals first
    | (refine z04 ?_
       unfold zcx zx2
       have hemp : ByteArray.empty = z77 := rfl
       first
         | ((simp (disch := omega) only [decide_eq_false, Bool.false_and, Bool.and_false, if_true, if_false, *]); done)
         | (simp_all [z77]; done)
         | (simp_all [z77]; omega))
    | skip
  all_goals
    have hown : zx2 t = true := by
      unfold zx2
      first
        | (simp_all [z77]; done)
        | (have e1 : t.head = [] := List.eq_nil_of_length_eq_zero (by omega)
           have e2 : t.words = [] := List.eq_nil_of_length_eq_zero (by omega)
           simp_all [z77])
    unfold zcx
    rw [hown, Bool.true_and]
    (refine z8h (fun U st => ∃ (i : _), U = t.kids.length - i /\ st.t 1 = .ptr 0 0 /\ st.t 3 = .mp 1 /\ st.t 47 = z0t t.kids /\ st.t 48 = .int .i64 t.kids.length /\ st.t 49 = .int .i64 i /\ st.H 0 = some (.box 27 (z08 t)) /\ st.H 1 = some (.map (ztl ((t.kids.take i).map zce))) /\ (i <= t.kids.length) /\ (2 <= st.nx) /\ ((t.kids.take i).all (fun k => z46 t.kind k.kind) = true) /\ (((t.kids.take i).map zce).Nodup)) ?_ ?_); rotate_left; (rintro U st ⟨i, rfl, q1, q3, q47, q48, q49, qH0, qH1, qp0, qp1, qp2, qp3⟩); rotate_left
    · (refine ⟨_, 0, rfl, ?_⟩); (simp (disch := omega) only [go_sem, Nat.reduceBEq, Nat.reduceLeDiff, true_and, Int.natCast_zero, List.map_nil, z0t, ztl])
      try simp
    by_cases hi : i < t.kids.length
    · have hcc := zgn t.kind t.kids[i].kind
      by_cases hm : zce t.kids[i] ∈ (t.kids.take i).map zce
      · obtain ⟨n, hfd⟩ := (zw3 (zce t.kids[i]) ((t.kids.take i).map zce)).1 hm
        have hno : ¬ (t.kids.map zce).Nodup := fun hn => by
          obtain ⟨x, hx, he⟩ := List.mem_map.1 hm
          obtain ⟨j, hj, rfl⟩ := List.getElem_of_mem hx
          rw [List.length_take] at hj
          rw [List.getElem_take] at he
          exact zut (f := zce) (j := j) (k := i) (by omega) hi he hn
        simp only [zce] at hfd
        repeat' (first | refine nxt ?_ | ((first | refine zqh fun K hK => ?_ | refine zqs (hcc) ?_); (simp (disch := omega) only [go_sem, Nat.reduceBEq, ↓reduceIte, reduceCtorEq, Nat.reduceAdd, Nat.reduceLeDiff, q1, q47, q48, q49, qH0, z0t])) | (refine zqd _ rfl ?_ ?_ <;> intro hc <;> (first | (cases hc; done) | ((try simp only [z0e] at hc); (try omega)))) | refine zqu (by simp only [go_sem]; rfl) rfl ?_ | (refine hK _ ?_; clear hK K) | (refine zqf (fun hb => ?_) (fun hb => ?_) <;> (have hb2 := hb; try simp only [z0e] at hb2) <;> ((have F : (_ : Bool) = _ := hb2); (simp (disch := omega) only [go_sem, Nat.reduceBEq, ↓reduceIte, Nat.reduceAdd, Nat.reduceLeDiff, F, q3, qH1, hfd]); clear hb F; (try omega))))
        all_goals exact z04 (by rw [decide_eq_false hno, Bool.false_and, Bool.and_false])
      · have hfd := (zw3 (zce t.kids[i]) ((t.kids.take i).map zce)).2 hm
        have hsn : ztl ((t.kids.take i).map zce) ++ [(.agg [.int .i64 t.kids[i].kind, .str t.kids[i].label], .bool true)] = ztl ((t.kids.take i).map zce ++ [zce t.kids[i]]) := zpa ((t.kids.take i).map zce) (zce t.kids[i])
        have htk : (t.kids.take (i + 1)).map zce = (t.kids.take i).map zce ++ [zce t.kids[i]] := by rw [List.take_succ_eq_append_getElem hi, List.map_append]; rfl
        simp only [show zce t.kids[i] = (t.kids[i].kind, t.kids[i].label) from rfl] at hfd
        repeat' (first | refine nxt ?_ | ((first | refine zqh fun K hK => ?_ | refine zqr fun K hK => ?_ | refine zqs (hcc) ?_); (simp (disch := omega) only [go_sem, Nat.reduceBEq, ↓reduceIte, reduceCtorEq, Nat.reduceAdd, Nat.reduceLeDiff, q1, q3, q47, q48, q49, qH0, qH1, z0t, hfd])) | (refine zqd _ rfl ?_ ?_ <;> intro hc <;> (first | (cases hc; done) | ((try simp only [z0e] at hc); (try omega)))) | refine zqu (by simp only [go_sem]; rfl) rfl ?_ | (refine hK _ ?_; clear hK K) | (refine zqf (fun hb => ?_) (fun hb => ?_) <;> (have hb2 := hb; try simp only [z0e] at hb2) <;> ((have F : (_ : Bool) = _ := hb2); (simp (disch := omega) only [go_sem, Nat.reduceBEq, ↓reduceIte, Nat.reduceAdd, Nat.reduceLeDiff, F, q3, qH1, hfd]); clear hb F; (try omega))))
        · (refine Exists.intro _ (And.intro ?_ ⟨i + 1, rfl, ?_⟩)); rotate_left; (simp (disch := omega) only [go_sem, Nat.reduceBEq, Nat.reduceLeDiff, q1, q3, q47, q48, q49, qH0, qH1, true_and, Int.natCast_add, Int.natCast_one, hsn, htk]); rotate_left
          · omega
          · (repeat' (first | omega | refine And.intro ?_ ?_))
            · exact zgq hi qp2 (by assumption)
            rw [<- htk]
            exact znr hi qp3 (fun j hj e => hm (by rw [<- e]; exact List.mem_map.2 ⟨_, List.mem_iff_getElem.2 ⟨j, by rw [List.length_take]; omega, List.getElem_take⟩, rfl⟩))
        · exact z04 (by rw [zrc (f := fun k : T => z46 t.kind k.kind) (k := i) hi (by assumption), Bool.false_and])
    · repeat' (first | ((refine zqh fun K hK => ?_); (simp (disch := omega) only [go_sem, Nat.reduceBEq, ↓reduceIte, reduceCtorEq, Nat.reduceAdd, q1, q48, q49, qH0, z0t])) | (refine zqd _ rfl ?_ ?_ <;> intro hc <;> (((try simp only [z0e] at hc); (try omega)))) | refine nxt ?_ | refine zqz ?_ | refine zqu (by simp only [go_sem]; rfl) rfl ?_ | (refine hK _ ?_; clear hK K))
      rw [List.take_of_length_le (by omega)] at qp3
      refine z04 ?_
      rw [zgr (by omega) qp2, decide_eq_true qp3, Bool.true_and, Bool.true_and]
      exact decide_eq_decide.2 (by omega)
theorem z01h (t : T) (hs : szB t = true) (hc : cntT t <= 1000000000) : PC prog 55 [z1n t] (.bool (zwi t)) := by
 have ha := z01k t (zde t hs) (by omega)
 have hl := zuu t
 refine z3l 1 (by simp only [pureD.pureL, z0n, Bool.and_self]) rfl (z2o [] func55 rfl (by decide +kernel) rfl ?_)
 show awp _ _ (Code.seq _ _) _ _
 repeat' (first | refine nxt ?_ | ((first | refine zqh fun K hK => ?_ | refine zqs (ha) ?_); (simp (disch := omega) only [go_sem, Nat.reduceBEq, ↓reduceIte, Nat.reduceAdd, Nat.reduceLeDiff])) | (refine hK _ ?_; clear hK K))
 (refine z8h (fun U st => ∃ (i : _), U = (idsT t).length - i /\ st.t 1 = .ptr 0 0 /\ st.t 3 = z48 (idsT t) /\ st.t 4 = .mp 1 /\ st.t 11 = z48 (idsT t) /\ st.t 12 = .int .i64 (idsT t).length /\ st.t 13 = .int .i64 i /\ st.H 0 = some (.box 27 (z08 t)) /\ st.H 1 = some (.map (setI (z15 ((idsT t).take i)))) /\ (i <= (idsT t).length) /\ (2 <= st.nx)) ?_ ?_); rotate_left; (rintro U st ⟨i, rfl, q1, q3, q4, q11, q12, q13, qH0, qH1, qp0, qp1⟩); rotate_left
 ·(refine ⟨_, 0, rfl, ?_⟩); (simp (disch := omega) only [go_sem, Nat.reduceBEq, Nat.reduceLeDiff, true_and, and_true, and_self, Int.natCast_zero, z48, setI])
  rfl
 obtain ⟨on1, on2, on3, on4⟩ := z2w ((idsT t).take i)
 by_cases hi : i < (idsT t).length
 ·have hfd := zbe (idsT t)[i] (z15 ((idsT t).take i))
  have hot := zok hi
  by_cases hm : (idsT t)[i] ∈ z15 ((idsT t).take i)
  ·rw [if_pos hm] at hfd hot
   have hsv := zer on1 hm
   repeat' (first | ((first | refine zqh fun K hK => ?_ | refine zqr fun K hK => ?_); (simp (disch := omega) only [go_sem, Nat.reduceBEq, ↓reduceIte, reduceCtorEq, Nat.reduceAdd, Nat.reduceLeDiff, q4, q11, q12, q13, qH1, z48, hfd, hsv])) | (refine zqd _ rfl ?_ ?_ <;> intro hc <;> (((try simp only [z0e] at hc); (try omega)))) | refine nxt ?_ | (refine hK _ ?_; clear hK K))
   (refine Exists.intro _ (And.intro ?_ ⟨i + 1, rfl, ?_⟩)); rotate_left; (simp (disch := omega) only [go_sem, Nat.reduceBEq, Nat.reduceLeDiff, q1, q3, q4, q11, q12, q13, qH0, qH1, true_and, Int.natCast_add, Int.natCast_one, hot]); rotate_left
   ·omega
   ·omega
  ·rw [if_neg hm] at hfd hot
   have hsn := z9f (z15 ((idsT t).take i)) (idsT t)[i]
   repeat' (first | ((first | refine zqh fun K hK => ?_ | refine zqr fun K hK => ?_); (simp (disch := omega) only [go_sem, Nat.reduceBEq, ↓reduceIte, reduceCtorEq, Nat.reduceAdd, Nat.reduceLeDiff, q4, q11, q12, q13, qH1, z48, hfd])) | (refine zqd _ rfl ?_ ?_ <;> intro hc <;> (((try simp only [z0e] at hc); (try omega)))) | refine nxt ?_ | (refine hK _ ?_; clear hK K))
   (refine Exists.intro _ (And.intro ?_ ⟨i + 1, rfl, ?_⟩)); rotate_left; (simp (disch := omega) only [go_sem, Nat.reduceBEq, Nat.reduceLeDiff, q1, q3, q4, q11, q12, q13, qH0, qH1, true_and, Int.natCast_add, Int.natCast_one, hot, hsn]); rotate_left
   ·omega
   ·omega
 ·rw [List.take_of_length_le (by omega)] at qH1 on1 on2 on3 on4
  have hfd : z2y prog 23 (.agg [.int .i64 0, .int .i64 0, .int .i64 0]) (setI (z15 (idsT t))) = some (if Idv.zero ∈ z15 (idsT t) then some ((z15 (idsT t)).idxOf Idv.zero, .bool true) else none) := zbe Idv.zero (z15 (idsT t))
  have hsl : (setI (z15 (idsT t))).length = (z15 (idsT t)).length := by unfold setI; simp
  have hne : idsT t ≠ [] := by rw [z35]; simp
  have hz := ztm hne
  have hb : zwi t = ((idsT t).all (fun i => decide (i = Idv.zero)) || (decide ((t.id = Idv.zero) ↔ (t.kind = 0)) && decide ((idsT t).Nodup))) := rfl
  by_cases hm : Idv.zero ∈ z15 (idsT t)
  ·rw [if_pos hm] at hfd
   rw [decide_eq_true hm, Bool.true_and] at hz
   repeat' (first | ((first | refine zqh fun K hK => ?_ | refine zqe (by decide +kernel) fun K hK => ?_); (simp (disch := omega) only [go_sem, Nat.reduceBEq, ↓reduceIte, Nat.reduceAdd, q4, q12, q13, qH1, hfd, hsl])) | (refine zqd _ rfl ?_ ?_ <;> intro hc <;> (((try simp only [z0e] at hc); (try omega)))) | refine nxt ?_ | refine zqz ?_ | refine zqu (by simp only [go_sem]; rfl) rfl ?_ | (refine hK _ ?_; clear hK K) | (refine zqf (fun hb => ?_) (fun hb => ?_) <;> (have hb2 := hb; try simp only [z0e] at hb2) <;> ((first | have F := eq_false hb2 | have F := eq_true hb2); (simp (disch := omega) only [go_sem, Nat.reduceBEq, ↓reduceIte, reduceCtorEq, Nat.reduceAdd, Nat.reduceLeDiff, F, q1, q3, q4, qH0, qH1, z48, hsl]); clear hb F; (try omega))))
   ·have hn : (idsT t).Nodup := on4.1 (by omega)
    refine z04 ?_
    rw [hb, hz, decide_eq_false (show ¬ (z15 (idsT t)).length = 1 by omega), decide_eq_true hn, Bool.false_or, Bool.and_true, <- zpb]
   ·have hn : ¬ (idsT t).Nodup := fun h => by have := on4.2 h; omega
    exact z04 (by rw [hb, hz, decide_eq_false (show ¬ (z15 (idsT t)).length = 1 by omega), decide_eq_false hn, Bool.false_or, Bool.and_false])
   ·exact z04 (by rw [hb, hz, decide_eq_true (by omega), Bool.true_or])
  ·rw [if_neg hm] at hfd
   rw [decide_eq_false hm, Bool.false_and] at hz
   repeat' (first | ((first | refine zqh fun K hK => ?_ | refine zqe (by decide +kernel) fun K hK => ?_); (simp (disch := omega) only [go_sem, Nat.reduceBEq, ↓reduceIte, Nat.reduceAdd, q3, q4, q12, q13, qH1, z48, hfd, hsl])) | (refine zqd _ rfl ?_ ?_ <;> intro hc <;> (((try simp only [z0e] at hc); (try omega)))) | refine nxt ?_ | refine zqz ?_ | refine zqu (by simp only [go_sem]; rfl) rfl ?_ | (refine hK _ ?_; clear hK K) | (refine zqf (fun hb => ?_) (fun hb => ?_) <;> (have hb2 := hb; try simp only [z0e] at hb2) <;> ((first | have F := eq_false hb2 | have F := eq_true hb2); (simp (disch := omega) only [go_sem, Nat.reduceBEq, ↓reduceIte, reduceCtorEq, Nat.reduceAdd, Nat.reduceLeDiff, F, q1, qH0]); clear hb F; (try omega))))
   ·have hn : (idsT t).Nodup := on4.1 (by omega)
    refine z04 ?_
    rw [hb, hz, decide_eq_true hn, Bool.false_or, Bool.and_true, <- zpb]
   ·have hn : ¬ (idsT t).Nodup := fun h => by have := on4.2 h; omega
    exact z04 (by rw [hb, hz, decide_eq_false hn, Bool.false_or, Bool.and_false])
theorem zpc (t : T) (hs : szB t = true) (hc : cntT t <= 1000000000) (V : depT t <= 1000000000) : PC prog 39 [z1n t] (.bool ((nodesT t).all zcx && (decide (depT t <= 8) && (decide (cntT t <= 1024) && zwi t)))) := by
 have h1 := ztq (g := 53) (cap := []) zcx rfl t (zde t hs) (fun x hx => ztn x (zg3 t hs x hx))
 have h2 := zud t (zde t hs) V
 have h3 := zc7 t (zde t hs) hc
 have h4 := z01h t hs hc
 refine z3l 1 (by simp only [pureD.pureL, z0n, Bool.and_self]) rfl (z2o [] func39 rfl (by decide +kernel) rfl ?_)
 show awp _ _ (Code.seq _ _) _ _
 repeat' (first | ((first | refine zqh fun K hK => ?_ | refine zqs (h1) ?_ | refine zqs (h2) ?_ | refine zqs (h3) ?_ | refine zqs (h4) ?_); (simp (disch := omega) only [go_sem, Nat.reduceBEq, ↓reduceIte, Nat.reduceAdd, Nat.reduceLeDiff])) | refine nxt ?_ | refine zqu (by simp only [go_sem]; rfl) rfl ?_ | (refine hK _ ?_; clear hK K) | (refine zqf (fun hb => ?_) (fun hb => ?_) <;> (have hb2 := hb; try simp only [z0e] at hb2) <;> ((first | have F : (_ : Bool) = _ := hb2 | have F := eq_false hb2 | have F := eq_true hb2); (simp (disch := omega) only [go_sem, Nat.reduceBEq, ↓reduceIte, Nat.reduceAdd, Nat.reduceLeDiff, hb, F]); clear hb F; (try omega))))
 all_goals refine z04 ?_
 all_goals (simp (disch := omega) only [decide_eq_true, decide_eq_false, Bool.true_and, Bool.false_and, Bool.and_false, *])
namespace Tr
instance : DecidableEq ByteArray := inferInstance
def zii : List (T -> Bool) -> List T -> Bool
 | [], [] => true
 | f :: fs, t :: ts => f t && zii fs ts
 | _, _ => false
def zni (a : T) : T -> Bool := ze9 (fun a l b => decide (a.id = b.id) && (decide (a.kind = b.kind) && (decide (a.label = b.label) && (decide (a.head = b.head) && (decide (a.words = b.words) && (decide (a.kids.length = b.kids.length) && zii l b.kids)))))) a
theorem zue (a b : T) : zni a b = (decide (a.id = b.id) && (decide (a.kind = b.kind) && (decide (a.label = b.label) && (decide (a.head = b.head) && (decide (a.words = b.words) && (decide (a.kids.length = b.kids.length) && zii (a.kids.map zni) b.kids)))))) := by
 unfold zni; rw [z37]
theorem zij : ∀ (l m : List T), (∀ k ∈ l, ∀ b, zni k b = true ↔ k = b) -> (zii (l.map zni) m = true ↔ l = m)
 | [], [], _ => by simp [zii]
 | [], _ :: _, _ => by simp [zii]
 | _ :: _, [], _ => by simp [zii]
 | a :: l, b :: m, h => by
  simp only [List.map_cons, zii, Bool.and_eq_true, List.cons.injEq]
  rw [h a (by simp) b, zij l m (fun k O => h k (List.mem_cons_of_mem _ O))]
theorem zq9 : ∀ a b : T, zni a b = true ↔ a = b := by
 refine z6x fun a ih b => ?_
 rw [zue]
 simp only [Bool.and_eq_true, decide_eq_true_eq]
 rw [zij a.kids b.kids ih]
 constructor
 ·rintro ⟨h1, h2, h3, h4, h5, _, h6⟩
  rw [<- T.eta a, <- T.eta b, h1, h2, h3, h4, h5, h6]
 ·rintro rfl; exact ⟨rfl, rfl, rfl, rfl, rfl, rfl, rfl⟩
instance : DecidableEq T := fun a b => decidable_of_iff _ (zq9 a b)
end Tr
namespace Tr
theorem z2q {id : Idv} {t : T} (h : t.id = id) : z1w id t = [t] := by rw [zaq, if_pos h]
theorem z9r {id : Idv} {t : T} {i : Nat} (h0 : ¬ t.id = id) (hi : i < t.kids.length) (h1 : ∀ j, (hj : j < i) -> (h : j < t.kids.length) -> z1w id t.kids[j] = []) (h2 : z1w id t.kids[i] ≠ []) : z1w id t = t :: z1w id t.kids[i] := by
 rw [zaq, if_neg h0, zih (z1w id) hi h1 h2]
theorem zqw {id : Idv} {t : T} {i : Nat} (h0 : ¬ t.id = id) (hi : t.kids.length <= i) (h1 : ∀ j, (hj : j < i) -> (h : j < t.kids.length) -> z1w id t.kids[j] = []) : z1w id t = [] := by
 rw [zaq, if_neg h0, zig (z1w id) h1 hi]
theorem zuf {id : Idv} {t : T} (h : z1w id t ≠ []) : (findR id t).2 = true := by unfold findR; rw [z9e _ h]
theorem zgl {id : Idv} {t : T} (h : z1w id t = []) : findR id t = (T.zero, false) := by unfold findR; rw [h]; rfl
theorem zik {id : Idv} {t : T} : (findR id t).2 = false ↔ z1w id t = [] := by
 constructor
 ·intro h
  by_cases h2 : z1w id t = []
  ·exact h2
  ·rw [zuf h2] at h; cases h
 ·intro h; rw [zgl h]
theorem zf0 {id : Idv} {t : T} : (findR id t).2 = true ↔ z1w id t ≠ [] := by
 rw [<- Bool.not_eq_false, zik]
theorem zf1 {id : Idv} {t : T} (h : t.id = id) : findR id t = (t, true) := by unfold findR; rw [z2q h]; rfl
theorem zf2 {id : Idv} {t k : T} (h : z1w id t = t :: z1w id k) (h2 : z1w id k ≠ []) : findR id t = findR id k := by
 unfold findR
 rw [h, List.getLast?_cons_of_ne_nil h2]
end Tr
namespace Tr
theorem zr0 {id : Idv} {t : T} {i : Nat} (h0 : ¬ t.id = id) (hi : i < t.kids.length) (h1 : ∀ j, (hj : j < i) -> (h : j < t.kids.length) -> z1w id t.kids[j] = []) (h2 : t.kids[i].id = id) : zed id t = (t.id, (i : Int), true) := by
 have hw := z2q h2
 have hw2 := z9r h0 hi h1 (by rw [hw]; simp)
 rw [hw] at hw2
 have hn : z63 (fun k => !(z1w id k).isEmpty) t.kids = i := z3z (by omega) (fun j hj => by rw [h1 j hj (by omega)]; rfl) (fun h => by rw [hw]; rfl)
 unfold zed
 simp only [hw2, List.length_cons, List.length_nil]
 rw [dif_neg (by omega)]
 simp only [show 0 + 1 + 1 - 2 = 0 from rfl, List.getElem_cons_zero, hn, hi, if_true]
theorem zxh {id : Idv} {t : T} {i : Nat} (h0 : ¬ t.id = id) (hi : i < t.kids.length) (h1 : ∀ j, (hj : j < i) -> (h : j < t.kids.length) -> z1w id t.kids[j] = []) (h2 : ¬ t.kids[i].id = id) (h3 : z1w id t.kids[i] ≠ []) : zed id t = zed id t.kids[i] := by
 have hw2 := z9r h0 hi h1 h3
 have hl : 2 <= (z1w id t.kids[i]).length := by
  rw [zaq, if_neg h2] at h3 ⊢
  split
  ·rename_i w hw
   have := List.find?_some hw
   cases w with
   | nil => simp at this
   | cons a w => simp
  ·rename_i hw; rw [hw] at h3; exact (h3 rfl).elim
 unfold zed
 simp only [hw2, List.length_cons]
 rw [dif_neg (by omega), dif_neg (by omega)]
 have e : (z1w id t.kids[i]).length + 1 - 2 = (z1w id t.kids[i]).length - 2 + 1 := by omega
 simp only [e, List.getElem_cons_succ]
end Tr
end
section
open Abs Facts Tr Go.RowKit
namespace Abs
section
variable {α : Type} {f : α -> List D} {sz : Nat}
end
variable {P : Program}
theorem zri {f : FuncId} {ds : List D} {H : HM} {nx : Nat} {K : D -> HM -> Nat -> Prop} (e : TypeId) (h : AC P f ds H nx fun r H' nx' => r = .nil /\ K (.osl nx' 0) (z0u H' nx' (some (.row e 0 []))) (nx' + 1)) : AC P f ds H nx K := by
 refine ⟨h.1, fun s w vs h1 h2 h3 h4 => (h.2 s w vs h1 h2 h3 h4).mono fun x w' ⟨v, r, s', he, ⟨hr, hK⟩, hstep, hRH, hrel⟩ => ?_⟩
 subst hr
 simp only [rel] at hrel
 subst hrel
 obtain ⟨g1, g2⟩ := z4c hRH (Grew.refl w') (.row e 0 []) (.slice none 0 0) (fun b hb => by cases hb) ⟨[], ⟨by simp, .inl ⟨rfl, rfl⟩⟩, z0h, by intro v hv; cases hv⟩
 refine ⟨.slice none 0 0, .osl s'.nx 0, s'.add (.slice none 0 0) (.row e 0 []), he, hK, hstep.trans g1, g2, ?_⟩
 simp only [rel]
 refine ⟨Nat.lt_succ_self _, ⟨none, 0, rfl⟩, fun e' k cs hH => ?_⟩
 simp only [RS.add, z0u, if_true, Option.some.injEq, HObj.row.injEq] at hH
 obtain ⟨_, rfl, _⟩ := hH
 exact ⟨Nat.le_refl _, fun _ => by simp [RS.add]⟩
theorem zf9 {st : St} {b off : Nat} {e : TypeId} {cs : List D} (e' : TypeId) (hb : st.H b = some (.box e cs)) (hoff : cs[off]? = some .nil) :
  SealTo P st { st with H := z0u (z0u st.H st.nx (some (.row e' 0 []))) b (some (.box e (cs.set off (.osl st.nx 0)))), nx := st.nx + 1 } := by
 intro N s a w hf
 have hHb : s.H b = some (.box e cs) := by rw [hf.H]; exact hb
 have hne : b ≠ s.nx := by have := (hf.heap.obj b _ hHb).1; omega
 obtain ⟨g1, g2⟩ := z4c hf.heap (Grew.refl w) (.row e' 0 []) (.slice none 0 0) (fun b hb => by cases hb) ⟨[], ⟨by simp, .inl ⟨rfl, rfl⟩⟩, z0h, by intro v hv; cases hv⟩
 have hb2 : (s.add (.slice none 0 0) (.row e' 0 [])).H b = some (.box e cs) := by simp [RS.add, z0u, hne, hHb]
 obtain ⟨_, q2⟩ := g2.obj b _ hb2
 obtain ⟨g3, g4⟩ := z5s (w' := w) g2 b _ (.box e (cs.set off (.osl s.nx 0))) ((s.add (.slice none 0 0) (.row e' 0 [])).κ b) hb2 rfl rfl rfl (Nat.le_refl _) (fun _ _ _ => rfl) (.inr ⟨_, rfl, rfl⟩) (fun b hb => .inl hb) (fun hl => by
  obtain ⟨b', vs, u1, u2, u3, u4⟩ := q2
  refine ⟨b', vs, u1, u2, ?_, u4⟩
  have hlen := z01 u3
  refine z3a (by rw [List.length_set]; exact hlen) fun i d v V hv => ?_
  rw [List.getElem?_set] at V
  split at V
  ·rename_i hio
   subst hio
   split at V
   ·cases V
    obtain ⟨v', hv', hr⟩ := z1b u3 _ _ hoff
    rw [hv'] at hv
    cases hv
    simp only [rel] at hr ⊢
    subst hr
    refine ⟨by simp [RS.set, RS.add], ⟨_, _, rfl⟩, fun e2 k cs hH => ⟨Nat.zero_le _, fun _ => ?_⟩⟩
    simp only [RS.set, RS.add]
    rw [if_neg (fun h => hne h.symm)]
    simp
   ·cases V
  ·obtain ⟨v', hv', hr⟩ := z1b u3 _ _ V
   rw [hv'] at hv
   cases hv
   exact rel.later hl _ _ hr)
 refine ⟨_, ⟨?_, ?_, hf.size, hf.defers, fun i => rel.later (g1.trans g3).later _ _ (hf.tmps i), g4⟩, g1.trans g3⟩
 ·simp only [RS.set, RS.add, hf.H, hf.nx]
 ·simp only [RS.set, RS.add, hf.nx]
theorem z1k {N id : Nat} {l : List Oper} {b : Code} {own : List Nat} {Q : Exit -> St -> Prop} {st : St} (_hid : (id == N) = false) (h : ∀ K : St -> Prop, (∀ st, awp P own b Q st -> K st) -> z1f P own (l.map (·.dst)) l K st) : awp P own (.seq (.region id l.toArray false) b) Q st := zqh h
theorem zgw {N id : Nat} {l : List Oper} {b : Code} {own : List Nat} {Q : Exit -> St -> Prop} {st : St} (_hid : (id == N) = false) (h0 : zfl own l.toArray = true) (h : ∀ K : St -> Prop, (∀ st, awp P own b Q st -> K st) -> z2n P own (l.map (·.dst)) l K st) : awp P own (.seq (.region id l.toArray true) b) Q st := zqe h0 h
end Abs
end
section
open Abs Facts Tr
attribute [local irreducible] awp
namespace Tr
end Tr
namespace Tr
theorem zug (k : Int) : (zkc k ≠ z77) ↔ (0 <= k /\ k <= 7) := by
 by_cases h : 0 <= k /\ k < 8
 ·have : zkc k ≠ z77 := by
   rcases zxl h with rfl | rfl | rfl | rfl | rfl | rfl | rfl | rfl <;> decide
  exact ⟨fun _ => by omega, fun _ => this⟩
 ·have : zkc k = z77 := if_neg h
  exact ⟨fun h2 => absurd this h2, fun h2 => by omega⟩
theorem zr1 (t : T) : (zx2 t && decide (t.kids.length <= 64)) = zis t := by
 unfold zx2 zis
 by_cases h0 : t.kind = 0
 ·rw [if_pos h0, if_pos h0, decide_eq_true (show 0 <= t.kind /\ t.kind <= 7 by omega)]
  by_cases h1 : t.head.length = 0
  ·by_cases h2 : t.words.length = 0
   ·have e1 : zlu t.head = true := by unfold zlu; rw [List.eq_nil_of_length_eq_zero h1]; rfl
    have e2 : zlu t.words = true := by unfold zlu; rw [List.eq_nil_of_length_eq_zero h2]; rfl
    rw [e1, e2, decide_eq_true h1, decide_eq_true h2, decide_eq_true (show t.head.length + t.words.length = 0 by omega)]
    simp [Bool.and_comm]
   ·rw [decide_eq_false h2, decide_eq_false (show ¬ t.head.length + t.words.length = 0 by omega)]; simp
  ·rw [decide_eq_false h1, decide_eq_false (show ¬ t.head.length + t.words.length = 0 by omega)]; simp
 ·rw [if_neg h0, if_neg h0]
  have : decide (zkc t.kind ≠ z77) = decide (0 <= t.kind /\ t.kind <= 7) := decide_eq_decide.2 (zug t.kind)
  rw [this]
  cases decide (0 <= t.kind /\ t.kind <= 7) <;> cases z7h t.label <;> cases zlu t.head <;> cases zlu t.words <;> cases decide (t.kids.length <= 64) <;> rfl
theorem zr2 (f : T -> Bool) (t : T) : (nodesT t).all f = (f t && t.kids.all fun k => (nodesT k).all f) := by
 rw [z17, List.all_cons, List.all_flatMap]
theorem zf3 {α : Type} {f g : α -> Bool} : ∀ {l : List α}, (∀ x ∈ l, f x = g x) -> l.all f = l.all g
 | [], _ => rfl
 | x :: l, h => by rw [List.all_cons, List.all_cons, h x (by simp), zf3 fun y hy => h y (List.mem_cons_of_mem _ hy)]
theorem zk9 : ∀ t : T, (nodesT t).all zcx = z9x t := by
 refine z6x fun t ih => ?_
 rw [zr2, zf3 ih, zdf, <- zr1]
 unfold zcx
 cases zx2 t <;> cases (t.kids.all fun k => z46 t.kind k.kind) <;> cases decide ((t.kids.map zce).Nodup) <;> cases decide (t.kids.length <= 64) <;> cases t.kids.all z9x <;> rfl
end Tr
theorem zgm (t : T) (hs : szB t = true) (hc : cntT t <= 1000000000) (V : depT t <= 1000000000) : PC prog 39 [z1n t] (.bool (z8q t)) := by
 have h := zpc t hs hc V
 rw [zk9] at h
 exact h
end
end Go.Proofs.YtfechgagcgbldaaDoor
namespace Go.Proofs.YtfechgagcgbldaaDoor.Lcs
section
variable {α : Type} [DecidableEq α]
def row (x : α) (f : List α -> Nat) : List α -> Nat
 | [] => 0
 | y :: ys => if x = y then max (max (f (y :: ys)) (row x f ys)) (f ys + 1) else max (f (y :: ys)) (row x f ys)
def len : List α -> List α -> Nat
 | [], _ => 0
 | x :: xs, ys => row x (len xs) ys
theorem zrg : ∀ (a : List α), len a [] = 0
 | [] => rfl
 | _ :: _ => rfl
theorem zcd (x y : α) (xs ys : List α) : len (x :: xs) (y :: ys) = if x = y then max (max (len xs (y :: ys)) (len (x :: xs) ys)) (len xs ys + 1) else max (len xs (y :: ys)) (len (x :: xs) ys) := rfl
def at_ (a b : List α) (i k : Nat) : Nat := len (a.drop i) (b.drop k)
theorem zkg (a b : List α) (i k : Nat) (h : a.length <= i) : at_ a b i k = 0 := by unfold at_; rw [List.drop_eq_nil_of_le h]; rfl
theorem zrh (a b : List α) (i k : Nat) (h : b.length <= k) : at_ a b i k = 0 := by unfold at_; rw [List.drop_eq_nil_of_le h]; exact zrg _
theorem at_step (a b : List α) (i k : Nat) (hi : i < a.length) (O : k < b.length) :
  at_ a b i k = if a[i] = b[k] then max (max (at_ a b (i + 1) k) (at_ a b i (k + 1))) (at_ a b (i + 1) (k + 1) + 1) else max (at_ a b (i + 1) k) (at_ a b i (k + 1)) := by
 unfold at_
 rw [List.drop_eq_getElem_cons hi, List.drop_eq_getElem_cons O, zcd]
theorem zgv : ∀ (a b : List α), len a b <= a.length
 | [], _ => Nat.le_refl 0
 | x :: xs, b => by
  have ih := zgv xs
  have key : ∀ b : List α, len (x :: xs) b <= xs.length + 1 := by
   intro b
   induction b with
   | nil => exact Nat.zero_le _
   | cons y ys ihb =>
    rw [zcd]
    have h1 := ih (y :: ys)
    have h2 := ih ys
    split <;> omega
  simpa using key b
theorem at_le (a b : List α) (i k : Nat) : at_ a b i k <= a.length := by
 have := zgv (a.drop i) (b.drop k)
 simp only [List.length_drop] at this
 unfold at_; omega

def tab (a b : List α) : List Int := (List.range ((a.length + 1) * (b.length + 1))).map fun p => (at_ a b (p / (b.length + 1)) (p % (b.length + 1)) : Int)
theorem idx_lt {n w i k : Nat} (hi : i < n) (O : k < w) : i * w + k < n * w := by
 have := Nat.mul_le_mul_right w (show i + 1 <= n by omega)
 rw [Nat.add_mul] at this; omega
theorem zxt {w i k i' k' : Nat} (O : k < w) (hk' : k' < w) (h : i * w + k = i' * w + k') : i = i' /\ k = k' := by
 have h1 : (i * w + k) / w = i := by rw [Nat.mul_comm, Nat.mul_add_div (by omega), Nat.div_eq_of_lt O]; omega
 have h2 : (i' * w + k') / w = i' := by rw [Nat.mul_comm, Nat.mul_add_div (by omega), Nat.div_eq_of_lt hk']; omega
 have : i = i' := by rw [<- h1, <- h2, h]
 subst this
 exact ⟨rfl, by omega⟩
theorem tab_len (a b : List α) : (tab a b).length = (a.length + 1) * (b.length + 1) := by simp [tab]
theorem tab_get (a b : List α) (i k : Nat) (hi : i <= a.length) (O : k <= b.length) : (tab a b)[i * (b.length + 1) + k]? = some (at_ a b i k : Int) := by
 have hlt : i * (b.length + 1) + k < (a.length + 1) * (b.length + 1) := idx_lt (by omega) (by omega)
 unfold tab
 rw [List.getElem?_map, List.getElem?_range hlt, Option.map_some]
 have h1 : (i * (b.length + 1) + k) / (b.length + 1) = i := by rw [Nat.mul_comm, Nat.mul_add_div (by omega), Nat.div_eq_of_lt (by omega)]; omega
 have h2 : (i * (b.length + 1) + k) % (b.length + 1) = k := by rw [Nat.mul_comm, Nat.mul_add_mod, Nat.mod_eq_of_lt (by omega)]
 rw [h1, h2]

def Known (a b : List α) (cs : List Int) (i k : Nat) : Prop :=
 cs.length = (a.length + 1) * (b.length + 1) /\ ∀ i' k', i' <= a.length -> k' <= b.length -> (i < i' \/ (i = i' /\ k <= k') \/ k' = b.length) -> cs[i' * (b.length + 1) + k']? = some (at_ a b i' k' : Int)
theorem known_zero (a b : List α) : Known a b (List.replicate ((a.length + 1) * (b.length + 1)) 0) a.length 0 := by
 refine ⟨by simp, fun i' k' hi O h => ?_⟩
 have hlt : i' * (b.length + 1) + k' < (a.length + 1) * (b.length + 1) := idx_lt (by omega) (by omega)
 rw [List.getElem?_replicate_of_lt hlt]
 rcases h with h | h | h
 ·omega
 ·rw [zkg a b i' k' (by omega)]; rfl
 ·rw [zrh a b i' k' (by omega)]; rfl
theorem known_set {a b : List α} {cs : List Int} {i k : Nat} (hi : i <= a.length) (O : k <= b.length) (h : Known a b cs i (k + 1)) : Known a b (cs.set (i * (b.length + 1) + k) (at_ a b i k : Int)) i k := by
 refine ⟨by simpa using h.1, fun i' k' hi' hk' hc => ?_⟩
 have hlt : i * (b.length + 1) + k < cs.length := by rw [h.1]; exact idx_lt (by omega) (by omega)
 by_cases he : i * (b.length + 1) + k = i' * (b.length + 1) + k'
 ·obtain ⟨rfl, rfl⟩ := zxt (by omega) (by omega) he
  rw [List.getElem?_set_self hlt]
 ·rw [List.getElem?_set_ne he]
  refine h.2 i' k' hi' hk' ?_
  rcases hc with hc | ⟨rfl, hc⟩ | hc
  ·exact .inl hc
  ·by_cases hkk : k = k'
   ·subst hkk; exact (he rfl).elim
   ·exact .inr (.inl ⟨rfl, by omega⟩)
  ·exact .inr (.inr hc)
theorem known_row {a b : List α} {cs : List Int} {i : Nat} (h : Known a b cs (i + 1) 0) : Known a b cs i b.length :=
 ⟨h.1, fun i' k' hi' hk' hc => h.2 i' k' hi' hk' (by omega)⟩
theorem known_all {a b : List α} {cs : List Int} (h : Known a b cs 0 0) : cs = tab a b := by
 refine List.ext_getElem? fun p => ?_
 by_cases hp : p < (a.length + 1) * (b.length + 1)
 ·have hw : 0 < b.length + 1 := by omega
  have h1 : p / (b.length + 1) <= a.length := by
   have := (Nat.div_lt_iff_lt_mul hw).2 hp; omega
  have h2 : p % (b.length + 1) <= b.length := by have := Nat.mod_lt p hw; omega
  have h3 : p / (b.length + 1) * (b.length + 1) + p % (b.length + 1) = p := Nat.div_add_mod' p _
  have h4 := h.2 _ _ h1 h2 (by
   rcases Nat.eq_zero_or_pos (p / (b.length + 1)) with h0 | h0
   ·exact .inr (.inl ⟨h0.symm, Nat.zero_le _⟩)
   ·exact .inl h0)
  have h5 := tab_get a b _ _ h1 h2
  rw [h3] at h4 h5
  rw [h4, h5]
 ·rw [List.getElem?_eq_none (by rw [h.1]; omega), List.getElem?_eq_none (by rw [tab_len]; omega)]

def good (a b : List α) (n x y : Nat) : Bool := decide (a[x]? = b[y]?) && decide (at_ a b (x + 1) (y + 1) + 1 = n)
def inRow (a b : List α) (n x y : Nat) : Option Nat := (List.range' y (b.length - y)).find? (good a b n x)
def search (a b : List α) (n k x : Nat) : Option (Nat × Nat) := (List.range' x (a.length - x)).findSome? fun x => (inRow a b n x k).map fun y => (x, y)
def next (a b : List α) (i k : Nat) : Nat × Nat := (search a b (at_ a b i k) k i).getD (a.length, b.length)
theorem inRow_end (a b : List α) (n x y : Nat) (h : b.length <= y) : inRow a b n x y = none := by
 unfold inRow; rw [show b.length - y = 0 by omega]; rfl
theorem inRow_step (a b : List α) (n x y : Nat) (h : y < b.length) : inRow a b n x y = if good a b n x y = true then some y else inRow a b n x (y + 1) := by
 unfold inRow
 rw [show b.length - y = (b.length - (y + 1)) + 1 by omega, List.range'_succ, List.find?_cons]
 split <;> simp_all
theorem search_end (a b : List α) (n k x : Nat) (h : a.length <= x) : search a b n k x = none := by
 unfold search; rw [show a.length - x = 0 by omega]; rfl
theorem search_step (a b : List α) (n k x : Nat) (h : x < a.length) : search a b n k x = match inRow a b n x k with | some y => some (x, y) | none => search a b n k (x + 1) := by
 unfold search
 rw [show a.length - x = (a.length - (x + 1)) + 1 by omega, List.range'_succ, List.findSome?_cons]
 cases inRow a b n x k <;> rfl
theorem zxu (a b : List α) : ∀ (m i k n : Nat), a.length - i + (b.length - k) <= m -> at_ a b i k = n + 1 -> ∃ x y, i <= x /\ x < a.length /\ k <= y /\ y < b.length /\ good a b (n + 1) x y = true := by
 intro m
 induction m with
 | zero => intro i k n hm h; rw [zkg a b i k (by omega)] at h; omega
 | succ m ih =>
  intro i k n hm h
  by_cases hi : i < a.length
  ·by_cases O : k < b.length
   ·have hs := at_step a b i k hi O
    have r1 : at_ a b (i + 1) k = n + 1 -> ∃ x y, i <= x /\ x < a.length /\ k <= y /\ y < b.length /\ good a b (n + 1) x y = true := by
     intro h1
     obtain ⟨x, y, q1, q2, q3, q4, q5⟩ := ih (i + 1) k n (by omega) h1
     exact ⟨x, y, by omega, q2, q3, q4, q5⟩
    have r2 : at_ a b i (k + 1) = n + 1 -> ∃ x y, i <= x /\ x < a.length /\ k <= y /\ y < b.length /\ good a b (n + 1) x y = true := by
     intro h1
     obtain ⟨x, y, q1, q2, q3, q4, q5⟩ := ih i (k + 1) n (by omega) h1
     exact ⟨x, y, q1, q2, by omega, q4, q5⟩
    by_cases he : a[i] = b[k]
    ·rw [if_pos he] at hs
     by_cases h3 : at_ a b (i + 1) (k + 1) + 1 = n + 1
     ·refine ⟨i, k, Nat.le_refl _, hi, Nat.le_refl _, O, ?_⟩
      unfold good
      rw [List.getElem?_eq_getElem hi, List.getElem?_eq_getElem O, he]
      simp [h3]
     ·by_cases h1 : at_ a b (i + 1) k = n + 1
      ·exact r1 h1
      ·exact r2 (by clear r1 r2 ih; omega)
    ·rw [if_neg he] at hs
     by_cases h1 : at_ a b (i + 1) k = n + 1
     ·exact r1 h1
     ·exact r2 (by clear r1 r2 ih; omega)
   ·rw [zrh a b i k (by omega)] at h; omega
  ·rw [zkg a b i k (by omega)] at h; omega
theorem zno {a b : List α} {n x k y : Nat} (h : inRow a b n x k = some y) : k <= y /\ y < b.length /\ good a b n x y = true := by
 unfold inRow at h
 have h1 := List.mem_of_find?_eq_some h
 have h2 := List.find?_some h
 simp only [List.mem_range'_1] at h1
 exact ⟨by omega, by omega, h2⟩
theorem zkh {a b : List α} {n k i : Nat} {r : Nat × Nat} (h : search a b n k i = some r) : i <= r.1 /\ r.1 < a.length /\ k <= r.2 /\ r.2 < b.length /\ good a b n r.1 r.2 = true := by
 unfold search at h
 obtain ⟨x, hx, hr⟩ := List.exists_of_findSome?_eq_some h
 simp only [List.mem_range'_1] at hx
 simp only [Option.map_eq_some_iff] at hr
 obtain ⟨y, hy, rfl⟩ := hr
 obtain ⟨q1, q2, q3⟩ := zno hy
 exact ⟨by omega, by omega, q1, q2, q3⟩
theorem zki {a b : List α} {n k i : Nat} (h : search a b n k i = none) {x y : Nat} (hx : i <= x) (hx' : x < a.length) (hy : k <= y) (hy' : y < b.length) : good a b n x y = false := by
 unfold search at h
 rw [List.findSome?_eq_none_iff] at h
 have h1 := h x (by simp only [List.mem_range'_1]; omega)
 simp only [Option.map_eq_none_iff] at h1
 unfold inRow at h1
 rw [List.find?_eq_none] at h1
 have := h1 y (by simp only [List.mem_range'_1]; omega)
 simpa using this
theorem next_good (a b : List α) (i k n : Nat) (h : at_ a b i k = n + 1) : i <= (next a b i k).1 /\ (next a b i k).1 < a.length /\ k <= (next a b i k).2 /\ (next a b i k).2 < b.length /\ a[(next a b i k).1]? = b[(next a b i k).2]? /\ at_ a b ((next a b i k).1 + 1) ((next a b i k).2 + 1) = n := by
 unfold next
 cases hs : search a b (at_ a b i k) k i with
 | none =>
  obtain ⟨x, y, q1, q2, q3, q4, q5⟩ := zxu a b _ i k n (Nat.le_refl _) h
  rw [h] at hs
  rw [zki hs q1 q2 q3 q4] at q5; cases q5
 | some r =>
  obtain ⟨q1, q2, q3, q4, q5⟩ := zkh hs
  unfold good at q5
  simp only [Bool.and_eq_true, decide_eq_true_eq] at q5
  rw [Option.getD_some]
  exact ⟨q1, q2, q3, q4, q5.1, by omega⟩
def pairsF (a b : List α) : Nat -> Nat -> Nat -> List (Nat × Nat)
 | 0, _, _ => []
 | n + 1, i, k => next a b i k :: pairsF a b n ((next a b i k).1 + 1) ((next a b i k).2 + 1)
def pairsFrom (a b : List α) (i k : Nat) : List (Nat × Nat) := pairsF a b (at_ a b i k) i k
theorem pairsFrom_nil (a b : List α) (i k : Nat) (h : at_ a b i k = 0) : pairsFrom a b i k = [] := by unfold pairsFrom; rw [h]; rfl
theorem pairsFrom_cons (a b : List α) (i k : Nat) (h : 0 < at_ a b i k) : pairsFrom a b i k = next a b i k :: pairsFrom a b ((next a b i k).1 + 1) ((next a b i k).2 + 1) := by
 obtain ⟨n, hn⟩ : ∃ n, at_ a b i k = n + 1 := ⟨at_ a b i k - 1, by omega⟩
 have h1 := (next_good a b i k n hn).2.2.2.2.2
 unfold pairsFrom
 rw [hn, h1]; rfl
def pairs (a b : List α) : List (Nat × Nat) := if 256 < a.length \/ 256 < b.length then [] else pairsFrom a b 0 0
end
end Go.Proofs.YtfechgagcgbldaaDoor.Lcs
namespace Go.Proofs.YtfechgagcgbldaaDoor.Lcs
variable {α : Type} [DecidableEq α]
theorem zha : ∀ (n : Nat) (a b : List α), a.length + b.length <= n -> ∃ s : List α, s.Sublist a /\ s.Sublist b /\ s.length = len a b
 | _, [], b, _ => ⟨[], List.Sublist.refl _, List.nil_sublist _, rfl⟩
 | _, x :: xs, [], _ => ⟨[], List.nil_sublist _, List.Sublist.refl _, by rw [zrg]; rfl⟩
 | 0, x :: xs, y :: ys, h => by simp at h
 | n + 1, x :: xs, y :: ys, h => by
  simp only [List.length_cons] at h
  obtain ⟨s1, h1, h2, h3⟩ := zha n xs (y :: ys) (by simp only [List.length_cons]; omega)
  obtain ⟨s2, g1, g2, g3⟩ := zha n (x :: xs) ys (by simp only [List.length_cons]; omega)
  obtain ⟨s3, k1, k2, k3⟩ := zha n xs ys (by omega)
  rw [zcd]
  split
  ·rename_i he
   subst he
   by_cases c1 : len xs ys + 1 <= max (len xs (x :: ys)) (len (x :: xs) ys)
   ·by_cases c2 : len (x :: xs) ys <= len xs (x :: ys)
    ·exact ⟨s1, h1.cons _, h2, by omega⟩
    ·exact ⟨s2, g1, g2.cons _, by omega⟩
   ·exact ⟨x :: s3, k1.cons_cons _, k2.cons_cons _, by simp only [List.length_cons]; omega⟩
  ·by_cases c2 : len (x :: xs) ys <= len xs (y :: ys)
   ·exact ⟨s1, h1.cons _, h2, by omega⟩
   ·exact ⟨s2, g1, g2.cons _, by omega⟩
theorem zhb : ∀ (n : Nat) (a b s : List α), a.length + b.length <= n -> s.Sublist a -> s.Sublist b -> s.length <= len a b
 | _, [], b, s, _, h1, _ => by have := List.Sublist.length_le h1; simp at this; simp [this]
 | _, x :: xs, [], s, _, _, h2 => by have := List.Sublist.length_le h2; simp at this; simp [this]
 | 0, x :: xs, y :: ys, s, h, _, _ => by simp at h
 | n + 1, x :: xs, y :: ys, s, h, h1, h2 => by
  simp only [List.length_cons] at h
  have hc := zcd x y xs ys
  cases h1 with
  | cons _ h1 =>
   have := zhb n xs (y :: ys) s (by simp only [List.length_cons]; omega) h1 h2
   rw [hc]; split <;> omega
  | cons_cons _ h1 =>
   rename_i s'
   cases h2 with
   | cons _ h2 =>
    have := zhb n (x :: xs) ys (x :: s') (by simp only [List.length_cons]; omega) (h1.cons_cons x) h2
    rw [hc]; split <;> omega
   | cons_cons _ h2 =>
    have := zhb n xs ys s' (by omega) h1 h2
    rw [hc, if_pos rfl]
    simp only [List.length_cons]; omega
theorem zwo (a b s : List α) (h1 : s.Sublist a) (h2 : s.Sublist b) : s.length <= len a b := zhb _ a b s (Nat.le_refl _) h1 h2
theorem zwp (a b : List α) : ∃ s : List α, s.Sublist a /\ s.Sublist b /\ s.length = len a b := zha _ a b (Nat.le_refl _)
theorem len_comm (a b : List α) : len a b = len b a := by
 obtain ⟨s, h1, h2, h3⟩ := zwp a b
 obtain ⟨t, k1, k2, k3⟩ := zwp b a
 have := zwo b a s h2 h1
 have := zwo a b t k2 k1
 omega
theorem zyl (a b : List α) : len a b <= b.length := by rw [len_comm]; exact zgv b a
theorem zad (a b : List α) : ∀ n i k, (pairsF a b n i k).length = n
 | 0, _, _ => rfl
 | n + 1, i, k => by simp [pairsF, zad a b n]
theorem pairs_length (a b : List α) (ha : a.length <= 256) (hb : b.length <= 256) : (pairs a b).length = len a b := by
 unfold pairs
 rw [if_neg (by omega)]
 unfold pairsFrom
 rw [zad]
 simp [at_]
theorem zoe (a b : List α) (h : 256 < a.length \/ 256 < b.length) : pairs a b = [] := by unfold pairs; rw [if_pos h]
theorem pairs_le (a b : List α) : (pairs a b).length <= 256 /\ (pairs a b).length <= a.length /\ (pairs a b).length <= b.length := by
 by_cases h : 256 < a.length \/ 256 < b.length
 ·rw [zoe a b h]; simp
 ·rw [pairs_length a b (by omega) (by omega)]
  have := zgv a b; have := zyl a b
  omega
end Go.Proofs.YtfechgagcgbldaaDoor.Lcs
namespace Go.Proofs.YtfechgagcgbldaaDoor
section
open Abs
namespace Tr
def wov {α β γ : Type} (ga : α -> γ) (gb : β -> γ) (gs : α -> β -> γ) (a : List α) (b : List β) : List (Nat × Nat) -> Nat -> Nat -> List γ
 | [], i, k => (a.drop i).map ga ++ (b.drop k).map gb
 | (x, y) :: r, i, k => ((a.drop i).take (x - i)).map ga ++ (((b.drop k).take (y - k)).map gb ++ ((match a[x]?, b[y]? with | some u, some v => [gs u v] | _, _ => []) ++ wov ga gb gs a b r (x + 1) (y + 1)))
def Rise (n m : Nat) : List (Nat × Nat) -> Nat -> Nat -> Prop
 | [], i, k => i <= n /\ k <= m
 | (x, y) :: r, i, k => i <= x /\ k <= y /\ x < n /\ y < m /\ Rise n m r (x + 1) (y + 1)
theorem Rise.le {n m : Nat} : ∀ {l : List (Nat × Nat)} {i k : Nat}, Rise n m l i k -> i <= n /\ k <= m
 | [], _, _, h => h
 | (x, y) :: r, _, _, ⟨h1, h2, h3, h4, _⟩ => ⟨by omega, by omega⟩
def mg {γ : Type} (s : Idv -> Bool) (ga : T -> γ) : List T -> List (Idv × γ) -> List γ
 | [], b => b.map (·.2)
 | x :: a, b => if s x.id = true then ((b.takeWhile fun y => !s y.1).map (·.2) ++ match b.dropWhile fun y => !s y.1 with
   | [] => mg s ga a []
   | y :: q => y.2 :: mg s ga a q) else ga x :: mg s ga a b
def stW (n : Int) (s : ByteArray) : Tw := ⟨n, s⟩
def z3n (a b : List ByteArray) : List Tw := wov (stW 2) (stW 1) (fun s _ => stW 0 s) a b (Lcs.pairs a b) 0 0
def txt (l : List Wd) : List ByteArray := l.map (·.text)
def z23 (i : Idv) (t : T) : Bool := (findR i t).2
def phT (i : Idv) : TT := .mk 2 0 i ByteArray.empty ByteArray.empty true [] [] []
def zee (u : T) (ks : List TT) : TT := .mk 2 u.kind u.id u.label ByteArray.empty false ((txt u.head).map (stW 2)) ((txt u.words).map (stW 2)) ks
def z53 (B : T) : T -> TT := ze9 fun u ks => if z23 u.id B = true then phT u.id else zee u ks
def stayB (A B : T) (mv : Idv -> Bool) (i : Idv) : Bool := z23 i A && (z23 i B && !mv i)
def z75 (A : T) (mv : Idv -> Bool) (u : T) (ks : List TT) : TT :=
 .mk (if z23 u.id A = true /\ mv u.id = false then 0 else 1) u.kind u.id u.label
  (if z23 u.id A = true /\ (findR u.id A).1.label ≠ u.label then (findR u.id A).1.label else ByteArray.empty) (mv u.id)
  (z3n (txt (findR u.id A).1.head) (txt u.head)) (z3n (txt (findR u.id A).1.words) (txt u.words)) ks
def z4g (A B : T) (mv : Idv -> Bool) : T -> TT := ze9 fun u ks => z75 A mv u (mg (stayB A B mv) (z53 B) (findR u.id A).1.kids ((u.kids.map T.id).zip ks))
theorem zg9 (B u : T) : z53 B u = if z23 u.id B = true then phT u.id else zee u (u.kids.map (z53 B)) := z37 _ u
theorem zle {α β γ : Type} (f : α -> β) (g : α -> γ) : ∀ l : List α, (l.map f).zip (l.map g) = l.map fun x => (f x, g x)
 | [] => rfl
 | x :: l => by simp [zle f g l]
theorem zd0 (A B : T) (mv : Idv -> Bool) (u : T) : z4g A B mv u = z75 A mv u (mg (stayB A B mv) (z53 B) (findR u.id A).1.kids (u.kids.map fun k => (k.id, z4g A B mv k))) := by
 rw [z4g, z37, <- z4g, zle]
def zk2 (t : TT) : List TT := zic (fun t l => t :: l.flatten) t
theorem znb (t : TT) : zk2 t = t :: (t.kids.map zk2).flatten := zgi _ t
theorem zak {γ : Type} (s : Idv -> Bool) (ga : T -> γ) : ∀ (a : List T) (b : List (Idv × γ)), (mg s ga a b).Perm ((a.filter fun x => !s x.id).map ga ++ b.map (·.2))
 | [], b => by simp [mg]
 | x :: a, b => by
  unfold mg
  by_cases hx : s x.id = true
  ·rw [if_pos hx, List.filter_cons_of_neg (by simp [hx])]
   have hb := List.takeWhile_append_dropWhile (p := fun y : Idv × γ => !s y.1) (l := b)
   generalize b.takeWhile (fun y => !s y.1) = p at *
   cases hq : b.dropWhile (fun y => !s y.1) with
   | nil =>
    rw [hq] at hb
    simp only [List.append_nil] at hb
    subst hb
    have := zak s ga a []
    simp only [List.map_nil, List.append_nil] at this
    exact (List.Perm.append_left _ this).trans List.perm_append_comm
   | cons y q =>
    rw [hq] at hb
    subst hb
    simp only [List.map_append, List.map_cons]
    have := zak s ga a q
    refine (List.Perm.append_left _ (List.Perm.cons _ this)).trans ?_
    refine (List.Perm.append_left _ (List.perm_middle.symm)).trans ?_
    exact List.perm_append_comm_assoc _ _ _
  ·rw [if_neg hx, List.filter_cons_of_pos (by simpa using hx)]
   exact List.Perm.cons _ (zak s ga a b)
end Tr
end
section
open Abs Facts Tr
attribute [local irreducible] awp
namespace Tr
end Tr
namespace Abs
end Abs
namespace Tr
theorem zem (deep most : Int) : ∀ (l : List T), (∀ k ∈ l, ∀ (d m : Int), 0 <= m -> 1 <= z2u k d m) -> ∀ n : Int, n <= z2l deep most (l.map z2u) n
 | [], _, n => by simp [z2l]
 | k :: l, h, n => by
  simp only [List.map_cons, z2l]
  split
  ·have h1 := h k (by simp) (deep + 1) (most - n) (by omega)
   have h2 := zem deep most l (fun q hq => h q (List.mem_cons_of_mem _ hq)) (n + z2u k (deep + 1) (most - n))
   omega
  ·omega
theorem zcl (deep most : Int) : ∀ (l : List T), (∀ k ∈ l, ∀ (m : Int), 0 <= m -> z2u k (deep + 1) m <= m -> (cntT k : Int) = z2u k (deep + 1) m /\ deep + 1 + depT k <= 20) -> ∀ n : Int, z2l deep most (l.map z2u) n <= most ->
  ((l.flatMap nodesT).length : Int) + n = z2l deep most (l.map z2u) n /\ ∀ k ∈ l, deep + 1 + depT k <= 20
 | [], _, n, _ => by simp [z2l]
 | k :: l, h, n, hn => by
  simp only [List.map_cons, z2l] at hn ⊢
  split at hn
  ·rename_i hle
   rw [if_pos hle]
   have hm := zem deep most l (fun q _ d m hm => (z5k q d m hm).1) (n + z2u k (deep + 1) (most - n))
   obtain ⟨h1, h2⟩ := h k (by simp) (most - n) (by omega) (by omega)
   obtain ⟨h3, h4⟩ := zcl deep most l (fun q hq => h q (List.mem_cons_of_mem _ hq)) _ hn
   refine ⟨?_, fun q hq => ?_⟩
   ·rw [List.flatMap_cons, List.length_append]
    have : (nodesT k).length = cntT k := rfl
    omega
   ·rcases List.mem_cons.1 hq with rfl | hq
    ·exact h2
    ·exact h4 q hq
  ·omega
theorem zmu (l : List T) (d : Int) (b : Int) (hb : d <= b) (h : ∀ k ∈ l, d + 1 + depT k <= b) : ∀ a : Nat, d + a <= b -> d + ((l.map depT).foldl (fun d x => max d (1 + x)) a : Nat) <= b := by
 induction l with
 | nil => intro a ha; simpa using ha
 | cons k l ih =>
  intro a ha
  rw [List.map_cons, List.foldl_cons]
  have := h k (by simp)
  exact ih (fun q hq => h q (List.mem_cons_of_mem _ hq)) _ (by omega)
theorem zjr : ∀ t : T, ∀ (deep most : Int), 0 <= most -> z2u t deep most <= most -> (cntT t : Int) = z2u t deep most /\ deep + depT t <= 20 := by
 refine z6x fun t ih deep most hm h => ?_
 rw [zgs] at h ⊢
 split at h
 ·omega
 ·rename_i V
  rw [if_neg V]
  obtain ⟨h1, h2⟩ := zcl deep most t.kids (fun k O m hm h => ih k O (deep + 1) m hm h) 1 h
  refine ⟨?_, ?_⟩
  ·rw [zgz]; omega
  ·rw [zk8]
   exact zmu t.kids deep 20 (by omega) h2 0 (by omega)
theorem zte (t : T) : t.kids.length <= cntT t := by
 rw [zgz]
 have : ∀ l : List T, l.length <= (l.flatMap nodesT).length := by
  intro l
  induction l with
  | nil => simp
  | cons k l ih =>
   rw [List.flatMap_cons, List.length_append, List.length_cons]
   have := zxy k
   unfold cntT at this
   omega
 have := this t.kids
 omega
theorem zou (l : List Wd) : z7i l = true ↔ (∀ w ∈ l, w.text.size <= 100) /\ l.length <= 300 := by
 unfold z7i
 simp only [Bool.and_eq_true, List.all_eq_true, decide_eq_true_eq]
theorem ztf : ∀ t : T, zda t = true -> cntT t <= 1000000 -> szB t = true := by
 refine z6x fun t ih h hc => ?_
 rw [zin] at h
 simp only [Bool.and_eq_true, decide_eq_true_eq, List.all_eq_true, zou] at h
 obtain ⟨h1, ⟨h2, h3⟩, ⟨h4, h5⟩, h6⟩ := h
 rw [z4i]
 have O := zte t
 refine ⟨by omega, by omega, fun w hw => ?_, by omega, fun w hw => ?_, by omega, fun k O => ih k O (h6 k O) ?_⟩
 ·have := h2 w hw; omega
 ·have := h4 w hw; omega
 ·have := zxx O; omega
theorem z016 {t : T} {most : Int} (h0 : 0 <= most) (h1 : most <= 1000) (h : zot t most = true) : szB t = true /\ (cntT t : Int) <= most /\ depT t <= 20 := by
 unfold zot at h
 simp only [Bool.and_eq_true, decide_eq_true_eq] at h
 obtain ⟨g1, g2⟩ := zjr t 0 most h0 h.1
 exact ⟨ztf t h.2 (by omega), by omega, by omega⟩
end Tr
namespace Tr
end Tr
end
section
open Abs Facts Tr
namespace Tr
theorem z6q (id : Idv) : ∀ t : T, z1w id t = [] ↔ id ∉ idsT t := by
 refine z6x fun t ih => ?_
 rw [z35, List.mem_cons, List.mem_flatMap]
 by_cases h0 : t.id = id
 ·rw [z2q h0]; simp [h0]
 ·rw [zaq, if_neg h0]
  constructor
  ·intro h hm
   rcases hm with hm | ⟨k, O, hm⟩
   ·exact h0 hm.symm
   ·have hne : z1w id k ≠ [] := fun e => (ih k O).1 e hm
    split at h
    ·cases h
    ·rename_i hf
     have := List.find?_eq_none.1 hf (z1w id k) (List.mem_map.2 ⟨k, O, rfl⟩)
     simp at this
     exact hne this
  ·intro hm
   have : (t.kids.map (z1w id)).find? (fun w => !w.isEmpty) = none := by
    rw [List.find?_eq_none]
    intro w hw
    obtain ⟨k, O, rfl⟩ := List.mem_map.1 hw
    have := (ih k O).2 fun h => hm (.inr ⟨k, O, h⟩)
    rw [this]; simp
   rw [this]
theorem zi8 {id : Idv} {t : T} : z1w id t ≠ [] ↔ id ∈ idsT t := by
 rw [ne_eq, z6q, Classical.not_not]
theorem z56 {id : Idv} {t : T} (h0 : ¬ t.id = id) (h : z1w id t ≠ []) : ∃ i, ∃ hi : i < t.kids.length, (∀ j, (hj : j < i) -> (h : j < t.kids.length) -> z1w id t.kids[j] = []) /\ z1w id t.kids[i] ≠ [] /\ z1w id t = t :: z1w id t.kids[i] := by
 have hex : ∃ i, ∃ hi : i < t.kids.length, z1w id t.kids[i] ≠ [] := by
  rcases Classical.em (∃ i, ∃ hi : i < t.kids.length, z1w id t.kids[i] ≠ []) with h1 | h1
  ·exact h1
  ·exfalso
   refine h (zqw h0 (Nat.le_refl _) fun j _ hj => ?_)
   rcases Classical.em (z1w id t.kids[j] = []) with h2 | h2
   ·exact h2
   ·exact (h1 ⟨j, hj, h2⟩).elim
 let p : Nat -> Prop := fun i => ∃ hi : i < t.kids.length, z1w id t.kids[i] ≠ []
 obtain ⟨i, hi, hmin⟩ : ∃ i, p i /\ ∀ j, j < i -> ¬ p j := by
  obtain ⟨i, hi⟩ := hex
  induction i using Nat.strongRecOn with
  | ind i ih =>
   rcases Classical.em (∃ j, j < i /\ p j) with ⟨j, hj, hp⟩ | h2
   ·exact ih j hj hp
   ·exact ⟨i, hi, fun j hj hp => h2 ⟨j, hj, hp⟩⟩
 obtain ⟨hl, hw⟩ := hi
 have h1 : ∀ j, (hj : j < i) -> (h : j < t.kids.length) -> z1w id t.kids[j] = [] := fun j hj h => by
  rcases Classical.em (z1w id t.kids[j] = []) with h2 | h2
  ·exact h2
  ·exact (hmin j hj ⟨h, h2⟩).elim
 exact ⟨i, hl, h1, hw, z9r h0 hl h1 hw⟩
theorem z80 {id : Idv} {t : T} (h : z1w id t ≠ []) : (z1w id t)[0]'(List.length_pos_iff.2 h) = t := by
 by_cases h0 : t.id = id
 ·simp only [z2q h0, List.getElem_cons_zero]
 ·obtain ⟨i, hi, _, _, hw⟩ := z56 h0 h
  simp only [hw, List.getElem_cons_zero]
theorem zlj (id : Idv) : ∀ t : T, ∀ h : z1w id t ≠ [], ((z1w id t)[(z1w id t).length - 1]'(by have := List.length_pos_iff.2 h; omega)).id = id := by
 refine z6x fun t ih h => ?_
 by_cases h0 : t.id = id
 ·simp only [z2q h0, List.length_cons, List.length_nil, List.getElem_cons_zero]; exact h0
 ·obtain ⟨i, hi, _, hne, hw⟩ := z56 h0 h
  have h2 := ih _ (List.getElem_mem hi) hne
  have hp := List.length_pos_iff.2 hne
  simp only [hw, List.length_cons]
  have e : (z1w id t.kids[i]).length + 1 - 1 = (z1w id t.kids[i]).length - 1 + 1 := by omega
  simp only [e, List.getElem_cons_succ]
  exact h2
theorem zu1 (id : Idv) : ∀ t : T, ∀ m, (hm : m < (z1w id t).length) -> z1w id ((z1w id t)[m]) = (z1w id t).drop m := by
 refine z6x fun t ih m hm => ?_
 have hne : z1w id t ≠ [] := fun h => by rw [h] at hm; simp at hm
 by_cases h0 : t.id = id
 ·have hw := z2q h0
  have : m = 0 := by rw [hw] at hm; simp at hm; omega
  subst this
  rw [z80 hne]; rfl
 ·obtain ⟨i, hi, _, O, hw⟩ := z56 h0 hne
  cases m with
  | zero => rw [z80 hne]; rfl
  | succ m =>
   have h2 := ih _ (List.getElem_mem hi) m (by rw [hw] at hm; simpa using hm)
   simp only [hw, List.getElem_cons_succ, List.drop_succ_cons]
   exact h2
theorem zng (id : Idv) (t : T) {x : T} (h : x ∈ z1w id t) : x.id ∈ idsT t := List.mem_map.2 ⟨x, zg2 id t x h, rfl⟩
theorem zan {t : T} (h : (idsT t).Nodup) : (∀ k ∈ t.kids, t.id ∉ idsT k) /\ (∀ k ∈ t.kids, (idsT k).Nodup) /\ ∀ i j, (hi : i < t.kids.length) -> (hj : j < t.kids.length) -> i ≠ j -> ∀ x ∈ idsT t.kids[i], x ∉ idsT t.kids[j] := by
 rw [z35, List.nodup_cons] at h
 obtain ⟨h1, h2⟩ := h
 refine ⟨fun k O hm => h1 (List.mem_flatMap.2 ⟨k, O, hm⟩), fun k O => ?_, fun i j hi hj hij x hx hx2 => ?_⟩
 ·exact (List.pairwise_flatMap.1 h2).1 k O
 ·have hp := (List.pairwise_flatMap.1 h2).2
  rw [List.pairwise_iff_getElem] at hp
  rcases Nat.lt_or_gt_of_ne hij with h3 | h3
  ·exact hp i j hi hj h3 x hx x hx2 rfl
  ·exact hp j i hj hi h3 x hx2 x hx rfl
theorem zu2 (id : Idv) : ∀ t : T, (idsT t).Nodup -> ∀ m, (hm : m < (z1w id t).length) -> z1w ((z1w id t)[m]).id t = (z1w id t).take (m + 1) := by
 refine z6x fun t ih hn m hm => ?_
 have hne : z1w id t ≠ [] := fun h => by rw [h] at hm; simp at hm
 by_cases h0 : t.id = id
 ·have hw := z2q h0
  have : m = 0 := by rw [hw] at hm; simp at hm; omega
  subst this
  rw [z80 hne, z2q rfl, hw]; rfl
 ·obtain ⟨i, hi, _, O, hw⟩ := z56 h0 hne
  cases m with
  | zero => rw [z80 hne, z2q rfl, hw]; rfl
  | succ m =>
   obtain ⟨g1, g2, g3⟩ := zan hn
   have hm' : m < (z1w id t.kids[i]).length := by rw [hw] at hm; simpa using hm
   have h2 := ih _ (List.getElem_mem hi) (g2 _ (List.getElem_mem hi)) m hm'
   have hx : ((z1w id t.kids[i])[m]).id ∈ idsT t.kids[i] := zng id _ (List.getElem_mem _)
   simp only [hw, List.getElem_cons_succ, List.take_succ_cons]
   rw [<- h2]
   refine z9r (fun e => g1 _ (List.getElem_mem hi) (by rw [e]; exact hx)) hi (fun j hj h => ?_) (by rw [h2]; intro e; have := congrArg List.length e; rw [List.length_take, List.length_nil] at this; omega)
   rw [z6q]
   exact g3 i j hi h (by omega) _ hx
theorem zd8 {t : T} (hn : (idsT t).Nodup) {id : Idv} (hm : id ∈ idsT t) (h0 : ¬ t.id = id) : ∃ (x q : T) (i : Nat) (hi : i < q.kids.length), findR id t = (x, true) /\ x.id = id /\ zed id t = (q.id, (i : Int), true) /\ findR q.id t = (q, true) /\ q.kids[i] = x /\
  (∃ hl : 0 < (zn2 id t).length, (zn2 id t)[0] = q.id /\ (zn2 id t)[(zn2 id t).length - 1]'(by omega) = t.id) /\ (zn2 id t).drop 1 = zn2 q.id t /\ x ∈ nodesT t /\ q ∈ nodesT t := by
 have hne := zi8.2 hm
 obtain ⟨_, _, _, O, hw0⟩ := z56 h0 hne
 have hlen : 2 <= (z1w id t).length := by
  have := List.length_pos_iff.2 O
  rw [hw0, List.length_cons]; omega
 obtain ⟨n, hnl⟩ : ∃ n, (z1w id t).length = n + 2 := ⟨(z1w id t).length - 2, by omega⟩
 have hq : n < (z1w id t).length := by omega
 have hx : n + 1 < (z1w id t).length := by omega
 have V := zu1 id t n hq
 have hdl : (z1w id t).drop n = [(z1w id t)[n], (z1w id t)[n + 1]] := by
  rw [List.drop_eq_getElem_cons hq, List.drop_eq_getElem_cons hx, List.drop_eq_nil_of_le (by omega)]
 rw [hdl] at V
 have ht := zu2 id t hn n hq
 have hl := zlj id t hne
 have e1 : (z1w id t).length - 1 = n + 1 := by omega
 simp only [e1] at hl
 generalize hxe : (z1w id t)[n + 1] = x at V hl
 generalize hqe : (z1w id t)[n] = q at V ht
 have hqi : ¬ q.id = id := fun e => by rw [z2q e] at V; simp at V
 obtain ⟨i, hi, h1, h2, h3⟩ := z56 hqi (by rw [V]; simp)
 rw [V] at h3
 simp only [List.cons.injEq, true_and] at h3
 have hki : q.kids[i] = x := by
  have := z80 h2
  simp only [<- h3, List.getElem_cons_zero] at this
  exact this.symm
 refine ⟨x, q, i, hi, ?_, hl, ?_, ?_, hki, ⟨?_, ?_, ?_⟩, ?_, ?_, ?_⟩
 ·unfold findR
  rw [z9e _ hne]
  simp only [e1, hxe]
 ·have hf : z63 (fun k => !(z1w id k).isEmpty) q.kids = i := z3z (by omega) (fun j hj => by rw [h1 j hj (by omega)]; rfl) (fun h => by
   cases hz : z1w id q.kids[i] with
   | nil => exact (h2 hz).elim
   | cons a l => rfl)
  unfold zed
  simp only [hnl]
  rw [dif_neg (by omega)]
  have e2 : n + 2 - 2 = n := by omega
  simp only [e2, hqe, hf, hi, if_true]
 ·unfold findR
  have hne2 : z1w q.id t ≠ [] := by rw [ht]; intro e; have := congrArg List.length e; rw [List.length_take, List.length_nil] at this; omega
  rw [z9e _ hne2]
  have : (z1w q.id t)[(z1w q.id t).length - 1]'(by have := List.length_pos_iff.2 hne2; omega) = q := by
   have e3 : (z1w q.id t).length - 1 = n := by rw [ht, List.length_take]; omega
   simp only [e3]
   simp only [ht, List.getElem_take]
   exact hqe
  rw [this]
 ·unfold zn2; simp; omega
 ·have hal : (zn2 id t).length = n + 1 := by unfold zn2; simp; omega
  have := List.getElem_reverse (l := (z1w id t).dropLast.map T.id) (i := 0) (by simp; omega)
  refine this.trans ?_
  simp only [List.getElem_map, List.getElem_dropLast, List.length_map, List.length_dropLast]
  have e4 : (z1w id t).length - 1 - 1 - 0 = n := by omega
  simp only [e4, hqe]
 ·have hal : (zn2 id t).length = n + 1 := by unfold zn2; simp; omega
  have := List.getElem_reverse (l := (z1w id t).dropLast.map T.id) (i := n) (by simp; omega)
  have e5 : (zn2 id t).length - 1 = n := by omega
  simp only [e5]
  refine this.trans ?_
  simp only [List.getElem_map, List.getElem_dropLast, List.length_map, List.length_dropLast]
  have e4 : (z1w id t).length - 1 - 1 - n = 0 := by omega
  simp only [e4, z80 hne]
 ·unfold zn2
  have e : (z1w id t).dropLast = (z1w id t).take (n + 1) := by rw [List.dropLast_eq_take, hnl]; rfl
  rw [ht, e, List.drop_one, List.tail_reverse, List.map_dropLast]
 ·rw [<- hxe]; exact zg2 id t _ (List.getElem_mem _)
 ·rw [<- hqe]; exact zg2 id t _ (List.getElem_mem _)
end Tr
end
section
open Abs Facts Tr
namespace Tr
def T.setKids (t : T) (l : List T) : T := .mk t.id t.kind t.label t.head t.words l
theorem ziq (t : T) : t.setKids t.kids = t := T.eta t
inductive Ctx where
 | hole
 | node (t : T) (l : List T) (c : Ctx) (r : List T)
def zwh : Ctx -> T -> T
 | .hole, x => x
 | .node t l c r, x => t.setKids (l ++ zwh c x :: r)
def zxr : Ctx -> List Idv
 | .hole => []
 | .node t l c _ => t.id :: (l.flatMap idsT ++ zxr c)
def zuo : Ctx -> List Idv
 | .hole => []
 | .node _ _ c r => zuo c ++ r.flatMap idsT
theorem zlz (x : T) : ∀ C, idsT (zwh C x) = zxr C ++ (idsT x ++ zuo C)
 | .hole => by simp [zwh, zxr, zuo]
 | .node t l c r => by
  rw [zwh, z35]
  show t.id :: (l ++ zwh c x :: r).flatMap idsT = _
  rw [List.flatMap_append, List.flatMap_cons, zlz x c, zxr, zuo]
  simp only [List.cons_append, List.append_assoc]
section
variable {id : Idv} {t p : T} {l r : List T}
end
theorem z5w (x : T) : x.id ∈ idsT x := by rw [z35]; exact List.mem_cons_self
theorem focus (id : Idv) : ∀ u : T, id ∈ idsT u -> ∃ C, u = zwh C (findR id u).1 /\ (findR id u).1.id = id /\ id ∉ zxr C /\ (findR id u).2 = true := by
 refine z6x fun u ih hm => ?_
 by_cases h0 : u.id = id
 ·rw [zf1 h0]
  exact ⟨.hole, rfl, h0, by simp [zxr], rfl⟩
 ·obtain ⟨i, hi, h1, h2, h3⟩ := z56 h0 (zi8.2 hm)
  rw [zf2 h3 h2]
  obtain ⟨C, g1, g2, g3, g4⟩ := ih _ (List.getElem_mem hi) (zi8.1 h2)
  refine ⟨.node u (u.kids.take i) C (u.kids.drop (i + 1)), ?_, g2, ?_, g4⟩
  ·rw [zwh, <- g1, <- List.drop_eq_getElem_cons hi, List.take_append_drop, ziq]
  ·rw [zxr, List.mem_cons, List.mem_append]
   rintro (h | h | h)
   ·exact h0 h.symm
   ·obtain ⟨k, O, hki⟩ := List.mem_flatMap.1 h
    obtain ⟨j, hj, rfl⟩ := List.getElem_of_mem O
    rw [List.getElem_take] at hki
    rw [List.length_take] at hj
    have := h1 j (by omega) (by omega)
    rw [z6q] at this
    exact this hki
   ·exact g3 h
theorem zrf {id : Idv} {u : T} (h : id ∉ idsT u) : findR id u = (T.zero, false) := zgl ((z6q id u).2 h)
theorem zxs {id : Idv} {u : T} : (findR id u).2 = decide (id ∈ idsT u) := by
 by_cases h : id ∈ idsT u
 ·obtain ⟨_, _, _, _, h4⟩ := focus id u h
  rw [h4, decide_eq_true h]
 ·rw [zrf h, decide_eq_false h]
end Tr
end
section
open Abs Facts Tr
namespace Tr
theorem zmt {C : Ctx} {x : T} (h : (idsT (zwh C x)).Nodup) : (idsT x).Nodup := by
 rw [zlz, List.nodup_append] at h
 exact (List.nodup_append.1 h.2.1).1
end Tr
end
section
open Abs
namespace Tr
theorem z2i {id : Idv} {u : T} (h : (findR id u).2 = true) : (findR id u).1 ∈ nodesT u := by
 have hm := zf0.1 h
 unfold findR
 rw [z9e _ hm]
 exact zg2 id u _ (List.getElem_mem _)
theorem z0x {id : Idv} {u q : T} (hn : (idsT u).Nodup) (hq : q ∈ nodesT u) (hid : q.id = id) : findR id u = (q, true) := by
 have key : ∀ u : T, (idsT u).Nodup -> q ∈ nodesT u -> findR id u = (q, true) := by
  refine z6x fun u ih hn hq => ?_
  rw [z17, List.mem_cons] at hq
  rcases hq with rfl | hq
  ·exact zf1 hid
  ·obtain ⟨k, O, hqk⟩ := List.mem_flatMap.1 hq
   obtain ⟨i, hi, rfl⟩ := List.getElem_of_mem O
   obtain ⟨g1, g2, g3⟩ := zan hn
   have hin : id ∈ idsT u.kids[i] := List.mem_map.2 ⟨q, hqk, hid⟩
   have h2 := ih _ O (g2 _ O) hqk
   have hw : z1w id u.kids[i] ≠ [] := zi8.2 hin
   rw [zf2 (z9r (fun e => g1 _ O (e ▸ hin)) hi (fun j hj h => (z6q id _).2 (g3 i j hi h (by omega) id hin)) hw) hw, h2]
 exact key u hn hq
def wtT (w : TT -> Nat) (t : TT) : Nat := ((zk2 t).map w).sum
theorem z8z : ∀ l : List (List Nat), l.flatten.sum = (l.map List.sum).sum
 | [] => rfl
 | a :: l => by simp [z8z l]
theorem zi1 (w : TT -> Nat) (t : TT) : wtT w t = w t + (t.kids.map (wtT w)).sum := by
 unfold wtT
 rw [znb, List.map_cons, List.sum_cons, List.map_flatten, z8z, List.map_map, List.map_map]
 rfl
def zi2 (w : TT -> Nat) : Prop := ∀ s k i l wa m a b ks, w (.mk s k i l wa m a b ks) = w (.mk s k i l wa m a b [])
theorem z9i {f : T -> Nat} (t : T) : ((nodesT t).map f).sum = f t + (t.kids.map fun k => ((nodesT k).map f).sum).sum := by
 rw [z17, List.map_cons, List.sum_cons, List.map_flatMap, List.flatMap_def, z8z, List.map_map]
 rfl
theorem z7e {α : Type} (f g : α -> Nat) : ∀ l : List α, (l.map fun x => f x + g x).sum = (l.map f).sum + (l.map g).sum
 | [] => rfl
 | x :: l => by simp [z7e f g l]; omega
theorem z66 {α : Type} (p : α -> Bool) (f : α -> Nat) : ∀ l : List α, ((l.filter p).map f).sum = (l.map fun x => if p x = true then f x else 0).sum
 | [] => rfl
 | x :: l => by
  by_cases h : p x = true
  ·simp [List.filter_cons_of_pos h, h, z66 p f l]
  ·simp [List.filter_cons_of_neg h, h, z66 p f l]
theorem z20 {α : Type} {f g : α -> Nat} {l : List α} (h : ∀ x ∈ l, f x = g x) : (l.map f).sum = (l.map g).sum := by
 rw [List.map_congr_left h]
theorem zlf {l m : List Nat} (h : l.Perm m) : l.sum = m.sum := h.sum_nat
def goK (w : TT -> Nat) (B : T) (s : Idv -> Bool) (x : T) : Nat := ((x.kids.filter fun k => !s k.id).map fun k => wtT w (z53 B k)).sum
def goD (w : TT -> Nat) (B : T) (mv : Idv -> Bool) (x : T) : Nat :=
 (if z23 x.id B = true then 0 else w (zee x [])) + (x.kids.map fun k => if z23 k.id B = true /\ mv k.id = true then w (phT k.id) else 0).sum
theorem zk3 {w : TT -> Nat} (hw : zi2 w) (B x : T) : wtT w (z53 B x) = if z23 x.id B = true then w (phT x.id) else w (zee x []) + (x.kids.map fun k => wtT w (z53 B k)).sum := by
 rw [zg9]
 split
 ·rw [zi1]; simp [phT, TT.kids]
 ·rw [zi1]
  have : w (zee x (x.kids.map (z53 B))) = w (zee x []) := hw ..
  rw [this]
  show _ + ((x.kids.map (z53 B)).map (wtT w)).sum = _
  rw [List.map_map]; rfl
theorem ztv {w : TT -> Nat} (hw : zi2 w) {A B : T} {mv : Idv -> Bool} : ∀ t : T,
  (∀ x ∈ nodesT t, ∀ k ∈ x.kids, z23 k.id A = true) ->
  (∀ x ∈ nodesT t, z23 x.id B = false -> ∀ k ∈ x.kids, z23 k.id B = true -> mv k.id = true) ->
  ((nodesT t).map fun x => if z23 x.id B = true then goK w B (stayB A B mv) x else 0).sum + (if z23 t.id B = true then 0 else wtT w (z53 B t)) = ((nodesT t).map (goD w B mv)).sum := by
 refine z6x fun t ih hA h => ?_
 rw [z9i (f := fun x => if z23 x.id B = true then goK w B (stayB A B mv) x else 0), z9i (f := goD w B mv)]
 have O : ∀ k ∈ t.kids, ((nodesT k).map (goD w B mv)).sum = ((nodesT k).map fun x => if z23 x.id B = true then goK w B (stayB A B mv) x else 0).sum + (if z23 k.id B = true then 0 else wtT w (z53 B k)) := fun k O =>
  (ih k O (fun x hx => hA x (z0k O hx)) (fun x hx => h x (z0k O hx))).symm
 rw [z20 O, z7e]
 have key : (if z23 t.id B = true then goK w B (stayB A B mv) t else 0) + (if z23 t.id B = true then 0 else wtT w (z53 B t)) = goD w B mv t + (t.kids.map fun k => if z23 k.id B = true then 0 else wtT w (z53 B k)).sum := by
  unfold goD
  by_cases ht : z23 t.id B = true
  ·rw [if_pos ht, if_pos ht, if_pos ht, Nat.add_zero, Nat.zero_add, <- z7e]
   unfold goK
   rw [z66]
   refine z20 fun k O => ?_
   have hkA := hA t (z05 t) k O
   unfold stayB
   rw [hkA, zk3 hw]
   by_cases hkB : z23 k.id B = true
   ·by_cases hm : mv k.id = true
    ·simp [hkB, hm]
    ·simp [hkB, hm]
   ·simp [hkB]
  ·rw [if_neg ht, if_neg ht, if_neg ht, Nat.zero_add, Nat.add_assoc, <- z7e, zk3 hw, if_neg ht]
   congr 1
   refine z20 fun k O => ?_
   rw [zk3 hw]
   by_cases hkB : z23 k.id B = true
   ·have hm := h t (z05 t) (by simpa using ht) k O hkB
    simp [hkB, hm]
   ·simp [hkB]
 omega
theorem zpm {w : TT -> Nat} (hw : zi2 w) (A B : T) (mv : Idv -> Bool) : ∀ u : T,
  wtT w (z4g A B mv u) = ((nodesT u).map fun y => w (z75 A mv y []) + goK w B (stayB A B mv) (findR y.id A).1).sum := by
 refine z6x fun u ih => ?_
 rw [z9i (f := fun y => w (z75 A mv y []) + goK w B (stayB A B mv) (findR y.id A).1), zd0, zi1]
 have h1 : ∀ ks, w (z75 A mv u ks) = w (z75 A mv u []) := fun ks => hw ..
 rw [h1, Nat.add_assoc]
 congr 1
 show (List.map (wtT w) (mg _ _ _ _)).sum = _
 rw [zlf ((zak _ _ _ _).map _), List.map_append, List.sum_append, List.map_map, List.map_map, List.map_map]
 congr 1
 exact congrArg List.sum (List.map_congr_left ih)
end Tr
end
section
open Abs
namespace Tr
structure Books (A B : T) (mv : Idv -> Bool) : Prop where
 na : (idsT A).Nodup
 nb : (idsT B).Nodup
 root : A.id = B.id
 rootM : mv B.id = false
 kept : ∀ i, mv i = true -> i ∈ idsT A /\ i ∈ idsT B
 kind : ∀ i x y, findR i A = (x, true) -> findR i B = (y, true) -> x.kind = y.kind
 lab : ∀ i x y, findR i A = (x, true) -> findR i B = (y, true) -> ¬ x.label = y.label -> ¬ x.label = ByteArray.empty
 line : ∀ i x y, findR i A = (x, true) -> findR i B = (y, true) -> (x.kids.filter fun k => stayB A B mv k.id).map T.id = (y.kids.filter fun k => stayB A B mv k.id).map T.id
 offA : ∀ x ∈ nodesT A, x.id ∉ idsT B -> ∀ k ∈ x.kids, k.id ∈ idsT B -> mv k.id = true
 offB : ∀ y ∈ nodesT B, y.id ∉ idsT A -> ∀ k ∈ y.kids, k.id ∈ idsT A -> mv k.id = true
theorem z12 : ∀ t : T, ∀ y ∈ nodesT t, ∀ z ∈ nodesT y, z ∈ nodesT t := by
 refine z6x fun t ih y hy z hz => ?_
 rw [z17, List.mem_cons, List.mem_flatMap] at hy
 rcases hy with rfl | ⟨k, O, hy⟩
 ·exact hz
 ·exact z0k O (ih k O y hy z hz)
theorem zag {id : Idv} {t : T} (h : (findR id t).2 = true) : (findR id t).1.id = id := by
 have h1 := zf0.1 h
 unfold findR
 rw [z9e _ h1]
 exact zlj id t h1
theorem id_in {t y : T} (h : y ∈ nodesT t) : y.id ∈ idsT t := List.mem_map.2 ⟨y, h, rfl⟩
theorem z1q {i : Idv} {t : T} : z23 i t = decide (i ∈ idsT t) := zxs
section
variable {A B : T} {mv : Idv -> Bool}
end
end Tr
end
section
open Abs
namespace Tr
def zoo (a b : List ByteArray) : List (Nat × Nat) -> Nat -> Nat -> Prop
 | [], _, _ => True
 | p :: l, i, k => i <= p.1 /\ p.1 < a.length /\ k <= p.2 /\ p.2 < b.length /\ a[p.1]? = b[p.2]? /\ zoo a b l (p.1 + 1) (p.2 + 1)
theorem zby (a b : List ByteArray) : ∀ (n i k : Nat), Lcs.at_ a b i k = n -> zoo a b (Lcs.pairsF a b n i k) i k
 | 0, _, _, _ => trivial
 | n + 1, i, k, h => by
  obtain ⟨q1, q2, q3, q4, q5, q6⟩ := Lcs.next_good a b i k n h
  exact ⟨q1, q2, q3, q4, q5, zby a b n _ _ q6⟩
theorem z71 (a b : List ByteArray) : zoo a b (Lcs.pairs a b) 0 0 := by
 unfold Lcs.pairs
 split
 ·trivial
 ·exact zby a b _ 0 0 rfl
def z7w (s : Int) (l : List Tw) : Nat := l.countP fun w => decide (w.state = s)
theorem z72 (s : Int) (l m : List Tw) : z7w s (l ++ m) = z7w s l + z7w s m := by simp [z7w]
theorem z6i (s : Int) (l : List ByteArray) : z7w s (l.map (stW s)) = l.length := by
 unfold z7w
 rw [List.countP_eq_length.2 (fun x hx => by obtain ⟨y, _, rfl⟩ := List.mem_map.1 hx; simp [stW]), List.length_map]
theorem z4u {s n : Int} (h : ¬ n = s) (l : List ByteArray) : z7w s (l.map (stW n)) = 0 := by
 unfold z7w
 rw [List.countP_eq_zero]
 intro x hx
 obtain ⟨y, _, rfl⟩ := List.mem_map.1 hx
 simp [stW, h]
theorem zt0 (a b : List ByteArray) : ∀ (l : List (Nat × Nat)) (i k : Nat), zoo a b l i k -> i <= a.length -> k <= b.length ->
  z7w 1 (wov (stW 2) (stW 1) (fun s _ => stW 0 s) a b l i k) + l.length + k = b.length /\ z7w 2 (wov (stW 2) (stW 1) (fun s _ => stW 0 s) a b l i k) + l.length + i = a.length
 | [], i, k, _, hi, O => by
  rw [wov, z72, z72, z4u (by decide), z6i, z6i, z4u (by decide), List.length_drop, List.length_drop, List.length_nil]
  omega
 | (x, y) :: l, i, k, h, hi, O => by
  obtain ⟨h1, h2, h3, h4, h5, h6⟩ := h
  simp only at h1 h2 h3 h4
  have ih := zt0 a b l _ _ h6 (by simp only; omega) (by simp only; omega)
  simp only at ih
  rw [wov]
  simp only [z72]
  rw [z4u (by decide), z6i, z6i, z4u (by decide), List.getElem?_eq_getElem h2, List.getElem?_eq_getElem h4, List.length_take, List.length_take, List.length_drop, List.length_drop, List.length_cons]
  have e1 : z7w 1 [stW 0 a[x]] = 0 := rfl
  have e2 : z7w 2 [stW 0 a[x]] = 0 := rfl
  simp only [e1, e2]
  omega
theorem zjp (v u : List ByteArray) : z7w 1 (z3n v u) + (Lcs.pairs v u).length = u.length /\ z7w 2 (z3n v u) + (Lcs.pairs v u).length = v.length := by
 have := zt0 v u _ 0 0 (z71 v u) (Nat.zero_le _) (Nat.zero_le _)
 unfold z3n
 omega
section
variable {A B : T} {mv : Idv -> Bool}
end
end Tr
end
section
open Abs
structure Ed where
 at_ : Int
 old : List ByteArray
 new : List ByteArray
 deriving DecidableEq
def zvy (e : Ed) : List D := [.int .i64 e.at_, z2g e.old, z2g e.new]
def encE (l : List Ed) : D := .rsl false 3 (l.map fun e => .agg (zvy e))
attribute [go_sem] encE
def fitsB (a : List ByteArray) (f : Int) (e : Ed) : Bool :=
 decide (f <= e.at_ /\ e.at_ <= a.length /\ (e.old.length : Int) <= a.length - e.at_ /\ e.old.length + e.new.length ≠ 0 /\ (a.take (e.at_ + e.old.length).toNat).drop e.at_.toNat = e.old)
def app (a : List ByteArray) : List Ed -> Bool -> Int -> Option (List ByteArray)
 | [], _, f => some (a.drop f.toNat)
 | e :: l, fst, f => if fitsB a f e = true /\ (fst = true \/ e.at_ ≠ f) then (app a l false (e.at_ + e.old.length)).map fun r => (a.take e.at_.toNat).drop f.toNat ++ e.new ++ r else none
end
section
open Abs
namespace Tr
def prK (s : Idv -> Bool) (bs : List Idv) : List T -> Nat -> List (Nat × Nat)
 | [], _ => []
 | x :: a, i => if s x.id = true then (i, bs.idxOf x.id) :: prK s bs a (i + 1) else prK s bs a (i + 1)
theorem zfn (s : Idv -> Bool) (bs : List Idv) : ∀ (a : List T) (i : Nat), (prK s bs a i).length <= a.length
 | [], _ => Nat.le_refl _
 | x :: a, i => by
  have := zfn s bs a (i + 1)
  unfold prK
  split <;> simp only [List.length_cons] <;> omega
theorem zfo {s : Idv -> Bool} {x : T} {l : List Idv} : ∀ (b : List T), x.id :: l = (b.filter fun k => s k.id).map T.id -> ∃ p y q, b = p ++ y :: q /\ (∀ k ∈ p, s k.id = false) /\ y.id = x.id /\ l = (q.filter fun k => s k.id).map T.id
 | [], h => by cases h
 | y :: b, h => by
  by_cases hy : s y.id = true
  ·rw [List.filter_cons_of_pos (by simpa using hy), List.map_cons, List.cons.injEq] at h
   exact ⟨[], y, b, rfl, fun k O => (by cases O), h.1.symm, h.2⟩
  ·rw [List.filter_cons_of_neg (by simpa using hy)] at h
   obtain ⟨p, z, q, rfl, h1, h2, h3⟩ := zfo b h
   refine ⟨y :: p, z, q, rfl, fun k O => ?_, h2, h3⟩
   rcases List.mem_cons.1 O with rfl | O
   ·simpa using hy
   ·exact h1 k O
theorem idx_at {b : List T} (hn : (b.map T.id).Nodup) {k : Nat} {p q : List T} {y : T} (h : b.drop k = p ++ y :: q) : (b.map T.id).idxOf y.id = k + p.length /\ k + p.length < b.length /\ b[k + p.length]? = some y /\ b.drop (k + p.length + 1) = q := by
 have hl : k + p.length < b.length := by
  have := congrArg List.length h
  rw [List.length_drop, List.length_append, List.length_cons] at this
  omega
 have hg : b[k + p.length]? = some y := by
  have := congrArg (fun l => l[p.length]?) h
  simpa using this
 have he : b[k + p.length] = y := by rw [List.getElem?_eq_getElem hl] at hg; exact Option.some.inj hg
 refine ⟨?_, hl, hg, ?_⟩
 ·have h2 : (b.map T.id)[k + p.length]'(by simpa using hl) = y.id := by simp [he]
  rw [<- h2]
  exact hn.idxOf_getElem _ _
 ·rw [Nat.add_assoc, <- List.drop_drop, h, List.drop_append]
  simp
section
variable {γ : Type} {s : Idv -> Bool} {ga gb : T -> γ} {a b : List T}
theorem zsh (hn : (b.map T.id).Nodup) : ∀ (r : List T) (i i' k : Nat), a.drop i = r -> i' <= i -> i <= a.length -> k <= b.length ->
  (r.filter fun k => s k.id).map T.id = ((b.drop k).filter fun k => s k.id).map T.id ->
  wov ga gb (fun _ y => gb y) a b (prK s (b.map T.id) r i) i' k = ((a.drop i').take (i - i')).map ga ++ mg s ga r ((b.drop k).map fun y => (y.id, gb y)) /\ Rise a.length b.length (prK s (b.map T.id) r i) i' k
 | [], i, i', k, hr, hi, hia, O, hf => by
  have hi2 : i = a.length := by
   have := congrArg List.length hr
   rw [List.length_drop, List.length_nil] at this; omega
  refine ⟨?_, ?_, O⟩
  ·rw [prK, wov, mg, List.take_of_length_le (by rw [List.length_drop]; omega), List.map_map]; rfl
  ·omega
 | x :: r, i, i', k, hr, hi, hia, O, hf => by
  have hil : i < a.length := by
   have := congrArg List.length hr
   rw [List.length_drop, List.length_cons] at this; omega
  have hx : a[i] = x /\ a.drop (i + 1) = r := by
   rw [List.drop_eq_getElem_cons hil, List.cons.injEq] at hr; exact hr
  by_cases hs : s x.id = true
  ·rw [List.filter_cons_of_pos (by simpa using hs), List.map_cons] at hf
   obtain ⟨p, y, q, hb, hp, hy, hl⟩ := zfo (b.drop k) hf
   obtain ⟨e1, e2, e3, e4⟩ := idx_at hn hb
   have ih := zsh hn r (i + 1) (i + 1) (k + p.length + 1) hx.2 (Nat.le_refl _) (by omega) (by omega) (by rw [e4]; exact hl)
   have e5 : prK s (b.map T.id) (x :: r) i = (i, k + p.length) :: prK s (b.map T.id) r (i + 1) := by rw [prK, if_pos hs, <- hy, e1]
   rw [e5]
   refine ⟨?_, by omega, by omega, hil, e2, ih.2⟩
   rw [wov, ih.1, mg, if_pos hs, hb]
   have t1 : ((p ++ y :: q).map fun y => (y.id, gb y)).takeWhile (fun z => !s z.1) = p.map fun y => (y.id, gb y) := by
    rw [List.map_append, List.map_cons, List.takeWhile_append_of_pos (by
     intro z hz
     obtain ⟨k, O, rfl⟩ := List.mem_map.1 hz
     simp [hp k O]), List.takeWhile_cons_of_neg (by simp [hy, hs]), List.append_nil]
   have t2 : ((p ++ y :: q).map fun y => (y.id, gb y)).dropWhile (fun z => !s z.1) = (y.id, gb y) :: q.map fun y => (y.id, gb y) := by
    rw [List.map_append, List.map_cons, List.dropWhile_append_of_pos (by
     intro z hz
     obtain ⟨k, O, rfl⟩ := List.mem_map.1 hz
     simp [hp k O]), List.dropWhile_cons_of_neg (by simp [hy, hs])]
   rw [t1, t2, e4, e3, List.getElem?_eq_getElem hil]
   simp only [Nat.sub_self, List.take_zero, List.map_nil, List.nil_append, List.map_map]
   rw [show k + p.length - k = p.length by omega, List.take_left']
   ·rfl
   ·rfl
  ·rw [List.filter_cons_of_neg (by simpa using hs)] at hf
   have ih := zsh hn r (i + 1) i' k hx.2 (by omega) (by omega) O hf
   rw [prK, if_neg hs]
   refine ⟨?_, ih.2⟩
   rw [ih.1, mg, if_neg hs]
   have e : (a.drop i').take (i + 1 - i') = (a.drop i').take (i - i') ++ [x] := by
    rw [show i + 1 - i' = (i - i') + 1 by omega, List.take_succ_eq_append_getElem (by rw [List.length_drop]; omega), List.getElem_drop]
    congr 2
    have : i' + (i - i') = i := by omega
    simp only [this]; exact hx.1
   rw [e, List.map_append, List.append_assoc]; rfl
end
end Tr
end
open _root_.Go.Proofs.Tryd
section
open Abs Facts
theorem zgk {α β : Type} (f : α -> β) (l : List α) (i : Nat) (x : α) : (l.map f).set i (f x) = (l.set i x).map f := by simp
attribute [local irreducible] awp
theorem pc36 (i k w : Nat) (cs : List Int) (v : Int) (hv : cs[i * w + k]? = some v) (hc : cs.length <= 100000) : PC prog 96 [.int .i64 i, .int .i64 k, .rptr (z8p cs), .rptr (.int .i64 w)] (.int .i64 v) := by
 obtain ⟨hlt, hv'⟩ := List.getElem?_eq_some_iff.1 hv
 refine z3l 1 (by simp only [pureD.pureL, pureD, z54, Bool.and_self]) rfl (z2o [] func96 rfl (by decide +kernel) rfl ?_)
 show awp _ _ (Code.seq _ _) _ _
 have w1 : IntKind.i64.wrap ((i : Int) * (w : Int)) = ((i * w : Nat) : Int) := by rw [<- Int.natCast_mul]; exact z2z (by omega)
 have w2 : IntKind.i64.wrap (((i * w : Nat) : Int) + (k : Int)) = ((i * w + k : Nat) : Int) := by rw [<- Int.natCast_add]; exact z2z (by omega)
 have i1 := z3d (D.int .i64) cs _ hlt
 (refine zqh fun K hK => ?_); (simp only [go_sem, Nat.reduceBEq, Nat.reduceBeqDiff, Nat.reduceEqDiff, ↓reduceIte, reduceCtorEq, Nat.reduceAdd, Nat.reduceMul, Nat.reduceLeDiff, Nat.reduceLT, Int.reduceLT, Int.reduceLE, Int.reduceEq]); (refine hK _ ?_); (clear hK K)
 (refine zqh fun K hK => ?_); (simp only [go_sem, Nat.reduceBEq, Nat.reduceBeqDiff, Nat.reduceEqDiff, ↓reduceIte, reduceCtorEq, Nat.reduceAdd, Nat.reduceMul, Nat.reduceLeDiff, Nat.reduceLT, Int.reduceLT, Int.reduceLE, Int.reduceEq, z8p, w1, w2, i1]); (refine hK _ ?_); (clear hK K)
 (refine zqn ?_); (refine Exists.intro _ (And.intro rfl ?_))
 exact z2b hv'
end
section
open Abs Facts
attribute [local irreducible] awp
theorem rc36 {H : HM} {nx : Nat} (i k w n : Nat) (cs : List Int) (v : Int) (hL : H 2 = some (.box 93 [.osl 1 n])) (hR : H 1 = some (.row 3 n (cs.map (D.int .i64)))) (hW : H 0 = some (.box 3 [.int .i64 (w : Int)])) (hn : cs.length = n)
  (hv : cs[i * w + k]? = some v) (hc : cs.length <= 100000) : RC prog 96 [.int .i64 i, .int .i64 k, .ptr 2 0, .ptr 0 0] H nx (.int .i64 v) := by
 refine PC.borrow (pc36 i k w cs v hv hc) rfl 3 ?_
 refine z0b (z07 _ rfl) (z0b (z07 _ rfl) (z0b ?_ (z0b ?_ z40)))
 ·exact z3f 2 hL zvc (z7f 0 hR z2r z5o (by simpa using hn) (z0g (fun _ => rfl) _))
 ·exact z3f 2 hW z2r (z07 _ rfl)
set_option maxHeartbeats 2000000 in
theorem pc28 (a b : List ByteArray) (ha : a.length <= 256) (hb : b.length <= 256) : PC prog 81 [z2g a, z2g b] (.fn 96 [.rptr (z8p (Lcs.tab a b)), .rptr (.int .i64 ((b.length + 1 : Nat) : Int))]) := by
 refine z3l 4 (by simp only [pureD.pureL, z3e, Bool.and_self]) (by simp only [pureD, pureD.pureL, z54, Bool.and_self]) (z2o [] func81 rfl (by decide +kernel) rfl ?_)
 show awp _ _ (Code.seq _ _) _ _
 have w1 : IntKind.i64.wrap ((b.length : Int) + 1) = ((b.length + 1 : Nat) : Int) := z2z (by omega)
 have w2 : IntKind.i64.wrap ((a.length : Int) + 1) = ((a.length + 1 : Nat) : Int) := z2z (by omega)
 have hm : (a.length + 1) * (b.length + 1) <= 66049 := Nat.mul_le_mul (show a.length + 1 <= 257 by omega) (show b.length + 1 <= 257 by omega)
 have w3 : IntKind.i64.wrap (((a.length + 1 : Nat) : Int) * ((b.length + 1 : Nat) : Int)) = (((a.length + 1) * (b.length + 1) : Nat) : Int) := by rw [<- Int.natCast_mul]; exact z2z (by omega)
 have g1 : (0 : Int) <= (((a.length + 1) * (b.length + 1) : Nat) : Int) := by omega
 have g2 : (a.length + 1) * (b.length + 1) * 8 <= 140737488355328 := by omega
 have g3 : (((a.length + 1) * (b.length + 1) : Nat) : Int) <= 9223372036854775807 := by omega
 (refine zqh fun K hK => ?_); (simp only [go_sem, Nat.reduceBEq, Nat.reduceBeqDiff, Nat.reduceEqDiff, ↓reduceIte, reduceCtorEq, Nat.reduceAdd, Nat.reduceMul, Nat.reduceLeDiff, Nat.reduceLT, Int.reduceLT, Int.reduceLE, Int.reduceEq]); (refine hK _ ?_); (clear hK K)
 repeat refine zqj ?_
 (refine zqh fun K hK => ?_); (simp only [go_sem, Nat.reduceBEq, Nat.reduceBeqDiff, Nat.reduceEqDiff, ↓reduceIte, reduceCtorEq, Nat.reduceAdd, Nat.reduceMul, Nat.reduceLeDiff, Nat.reduceLT, Int.reduceLT, Int.reduceLE, Int.reduceEq, z2g, w1]); (refine hK _ ?_); (clear hK K)
 repeat refine zqj ?_
 (refine zqh fun K hK => ?_); (simp only [go_sem, Nat.reduceBEq, Nat.reduceBeqDiff, Nat.reduceEqDiff, ↓reduceIte, reduceCtorEq, Nat.reduceAdd, Nat.reduceMul, Nat.reduceLeDiff, Nat.reduceLT, Int.reduceLT, Int.reduceLE, Int.reduceEq, z2g, w1, w2, w3, g1, g2, g3, zga (D.int .i64) 0 ((a.length + 1) * (b.length + 1))]); (refine hK _ ?_); (clear hK K)
 repeat refine zqj ?_
 (refine zqh fun K hK => ?_); (simp only [go_sem, Nat.reduceBEq, Nat.reduceBeqDiff, Nat.reduceEqDiff, ↓reduceIte, reduceCtorEq, Nat.reduceAdd, Nat.reduceMul, Nat.reduceLeDiff, Nat.reduceLT, Int.reduceLT, Int.reduceLE, Int.reduceEq]); (refine hK _ ?_); (clear hK K)
 have w4 : IntKind.i64.wrap ((a.length : Int) - 1) = (a.length : Int) - 1 := z2z (by omega)
 have w5 : IntKind.i64.wrap ((b.length : Int) - 1) = (b.length : Int) - 1 := z2z (by omega)
 repeat refine zqj ?_
 (refine zqh fun K hK => ?_); (simp only [go_sem, Nat.reduceBEq, Nat.reduceBeqDiff, Nat.reduceEqDiff, ↓reduceIte, reduceCtorEq, Nat.reduceAdd, Nat.reduceMul, Nat.reduceLeDiff, Nat.reduceLT, Int.reduceLT, Int.reduceLE, Int.reduceEq, z2g, w4]); (refine hK _ ?_); (clear hK K)
 refine z1a fun K hK => ?_
 refine zqi (z4o (fun n st => ∃ cs : List Int, n <= a.length /\ st.t 0 = z2g a /\ st.t 1 = z2g b /\ st.t 5 = .ptr 0 0 /\ st.t 6 = .ptr 2 0 /\ st.t 7 = .fn 96 [.ptr 2 0, .ptr 0 0] /\ st.t 8 = .int .i64 ((n : Int) - 1) /\
   st.H 0 = some (.box 3 [.int .i64 ((b.length + 1 : Nat) : Int)]) /\ st.H 1 = some (.row 3 ((a.length + 1) * (b.length + 1)) (cs.map (D.int .i64))) /\ st.H 2 = some (.box 93 [.osl 1 ((a.length + 1) * (b.length + 1))]) /\
   Lcs.Known a b cs n 0) a.length ?_ ?_)
 ·exact ⟨List.replicate ((a.length + 1) * (b.length + 1)) 0, Nat.le_refl _, rfl, rfl, rfl, rfl, rfl, rfl, rfl, rfl, rfl, Lcs.known_zero a b⟩
 rintro n st ⟨cs, hn, h0, h1, h5, h6, h7, h8, hH0, hH1, hH2, O⟩
 repeat refine zqj ?_
 (refine zqh fun K hK => ?_); (simp only [go_sem, Nat.reduceBEq, Nat.reduceBeqDiff, Nat.reduceEqDiff, ↓reduceIte, reduceCtorEq, Nat.reduceAdd, Nat.reduceMul, Nat.reduceLeDiff, Nat.reduceLT, Int.reduceLT, Int.reduceLE, Int.reduceEq, h8]); (refine hK _ ?_); (clear hK K)
 refine z1a fun K2 hK2 => ?_
 (refine zqm _ rfl (fun hc => ?_) (fun hc => ?_)) <;> (simp only [z0e] at hc)
 ·obtain ⟨i, rfl⟩ : ∃ i, n = i + 1 := ⟨n - 1, by omega⟩
  have h8' : st.t 8 = .int .i64 (i : Int) := by rw [h8]; congr 1; omega
  refine zqk (hK2 _ ?_); clear hK2 K2 h8
  repeat refine zqj ?_
  refine z1a fun K2 hK2 => ?_
  refine zqi ?_
  repeat refine zqj ?_
  (refine zqh fun K hK => ?_); (simp only [go_sem, Nat.reduceBEq, Nat.reduceBeqDiff, Nat.reduceEqDiff, ↓reduceIte, reduceCtorEq, Nat.reduceAdd, Nat.reduceMul, Nat.reduceLeDiff, Nat.reduceLT, Int.reduceLT, Int.reduceLE, Int.reduceEq, h1, z2g, w5]); (refine hK _ ?_); (clear hK K)
  refine zqi (z4o (fun m st => ∃ cs : List Int, m <= b.length /\ st.t 0 = z2g a /\ st.t 1 = z2g b /\ st.t 5 = .ptr 0 0 /\ st.t 6 = .ptr 2 0 /\ st.t 7 = .fn 96 [.ptr 2 0, .ptr 0 0] /\ st.t 8 = .int .i64 (i : Int) /\ st.t 9 = .int .i64 ((m : Int) - 1) /\
   st.H 0 = some (.box 3 [.int .i64 ((b.length + 1 : Nat) : Int)]) /\ st.H 1 = some (.row 3 ((a.length + 1) * (b.length + 1)) (cs.map (D.int .i64))) /\ st.H 2 = some (.box 93 [.osl 1 ((a.length + 1) * (b.length + 1))]) /\
   Lcs.Known a b cs i m) b.length ?_ ?_)
  ·exact ⟨cs, Nat.le_refl _, h0, h1, h5, h6, h7, h8', rfl, hH0, hH1, hH2, Lcs.known_row O⟩
  clear h0 h1 h5 h6 h7 h8' hH0 hH1 hH2 O
  rintro m st ⟨cs, hm', h0, h1, h5, h6, h7, h8, h9, hH0, hH1, hH2, O⟩
  repeat refine zqj ?_
  (refine zqh fun K hK => ?_); (simp only [go_sem, Nat.reduceBEq, Nat.reduceBeqDiff, Nat.reduceEqDiff, ↓reduceIte, reduceCtorEq, Nat.reduceAdd, Nat.reduceMul, Nat.reduceLeDiff, Nat.reduceLT, Int.reduceLT, Int.reduceLE, Int.reduceEq, h9]); (refine hK _ ?_); (clear hK K)
  refine z1a fun K3 hK3 => ?_
  (refine zqm _ rfl (fun hc => ?_) (fun hc => ?_)) <;> (simp only [z0e] at hc)
  ·obtain ⟨k, rfl⟩ : ∃ k, m = k + 1 := ⟨m - 1, by omega⟩
   have h9' : st.t 9 = .int .i64 (k : Int) := by rw [h9]; congr 1; omega
   refine zqk (hK3 _ ?_); clear hK3 K3 h9
   repeat refine zqj ?_
   refine z1a fun K3 hK3 => ?_
   refine zqi ?_
   repeat refine zqj ?_
   have wi : IntKind.i64.wrap ((i : Int) + 1) = ((i + 1 : Nat) : Int) := z2z (by omega)
   have wk : IntKind.i64.wrap ((k : Int) + 1) = ((k + 1 : Nat) : Int) := z2z (by omega)
   have v1 := O.2 (i + 1) k (by omega) (by omega) (.inl (by omega))
   have v2 := O.2 i (k + 1) (by omega) (by omega) (.inr (.inl ⟨rfl, by omega⟩))
   have v3 := O.2 (i + 1) (k + 1) (by omega) (by omega) (.inl (by omega))
   have l1 := Lcs.at_le a b (i + 1) k
   have l2 := Lcs.at_le a b i (k + 1)
   have l3 := Lcs.at_le a b (i + 1) (k + 1)
   have hcl : cs.length <= 100000 := by rw [O.1]; omega
   refine zqh fun K hK => ?_
   simp only [go_sem, Nat.reduceBEq, Nat.reduceBeqDiff, Nat.reduceEqDiff, ↓reduceIte, reduceCtorEq, Nat.reduceAdd, Nat.reduceMul, Nat.reduceLeDiff, Nat.reduceLT, Int.reduceLT, Int.reduceLE, Int.reduceEq, h7, h8, h9', wi, wk]
   refine z34 (rc36 (i + 1) k (b.length + 1) _ cs _ hH2 hH1 hH0 O.1 v1 hcl) ?_
   simp only [go_sem, Nat.reduceBEq, Nat.reduceBeqDiff, Nat.reduceEqDiff, ↓reduceIte, reduceCtorEq, Nat.reduceAdd, Nat.reduceMul, Nat.reduceLeDiff, Nat.reduceLT, Int.reduceLT, Int.reduceLE, Int.reduceEq, h7, h8, h9', wi, wk]
   refine z34 (rc36 i (k + 1) (b.length + 1) _ cs _ hH2 hH1 hH0 O.1 v2 hcl) ?_
   simp only [go_sem, Nat.reduceBEq, Nat.reduceBeqDiff, Nat.reduceEqDiff, ↓reduceIte, reduceCtorEq, Nat.reduceAdd, Nat.reduceMul, Nat.reduceLeDiff, Nat.reduceLT, Int.reduceLT, Int.reduceLE, Int.reduceEq, h7, h8, h9', wi, wk]
   refine hK _ ?_
   clear hK K
   have hlt : i * (b.length + 1) + k < (a.length + 1) * (b.length + 1) := Lcs.idx_lt (by omega) (by omega)
   have wm : IntKind.i64.wrap ((i : Int) * ((b.length + 1 : Nat) : Int)) = ((i * (b.length + 1) : Nat) : Int) := by rw [<- Int.natCast_mul]; exact z2z (by omega)
   have wp : IntKind.i64.wrap (((i * (b.length + 1) : Nat) : Int) + (k : Int)) = ((i * (b.length + 1) + k : Nat) : Int) := z2z (by omega)
   have hin : ((i * (b.length + 1) + k : Nat) : Int) < (((a.length + 1) * (b.length + 1) : Nat) : Int) := by omega
   have hin2 : i * (b.length + 1) + k + 1 <= (a.length + 1) * (b.length + 1) := by omega
   have hkl := O.1
   refine z1a fun K4 hK4 => ?_
   have tail : ∀ st' : St, st'.t 0 = z2g a -> st'.t 1 = z2g b -> st'.t 5 = .ptr 0 0 -> st'.t 6 = .ptr 2 0 -> st'.t 7 = .fn 96 [.ptr 2 0, .ptr 0 0] -> st'.t 8 = .int .i64 (i : Int) -> st'.t 9 = .int .i64 (k : Int) -> st'.t 10 = .int .i64 (Lcs.at_ a b i k : Int) ->
     st'.H 0 = some (.box 3 [.int .i64 ((b.length + 1 : Nat) : Int)]) -> st'.H 1 = some (.row 3 ((a.length + 1) * (b.length + 1)) (cs.map (D.int .i64))) -> st'.H 2 = some (.box 93 [.osl 1 ((a.length + 1) * (b.length + 1))]) -> K4 st' := by
    intro st' h0 h1 h5 h6 h7 h8 h9 h10 hH0 hH1 hH2
    refine hK4 _ ?_
    (refine z32 ?_); (simp only [go_sem, Nat.reduceBEq, Nat.reduceBeqDiff, Nat.reduceEqDiff, ↓reduceIte, reduceCtorEq, Nat.reduceAdd, Nat.reduceMul, Nat.reduceLeDiff, Nat.reduceLT, Int.reduceLT, Int.reduceLE, Int.reduceEq, h5, h6, h8, h9, h10, hH0, hH1, hH2, wm, wp, hin, hin2, hkl, zgk])
    refine (show K3 _ from hK3 _ ?_)
    have wk2 : IntKind.i64.wrap ((k : Int) - 1) = (k : Int) - 1 := z2z (by omega)
    (refine z32 ?_); (simp only [go_sem, Nat.reduceBEq, Nat.reduceBeqDiff, Nat.reduceEqDiff, ↓reduceIte, reduceCtorEq, Nat.reduceAdd, Nat.reduceMul, Nat.reduceLeDiff, Nat.reduceLT, Int.reduceLT, Int.reduceLE, Int.reduceEq, h9, wk2])
    exact ⟨k, by omega, cs.set (i * (b.length + 1) + k) (Lcs.at_ a b i k : Int), by omega, h0, h1, h5, h6, h7, h8, rfl, hH0, rfl, hH2, Lcs.known_set (by omega) (by omega) O⟩
   have i1 := z3d D.str a i (by omega)
   have i2 := z3d D.str b k (by omega)
   have hst := Lcs.at_step a b i k (by omega) (by omega)
   (refine zqe (by decide +kernel) fun K hK => ?_); (simp only [go_sem, Nat.reduceBEq, Nat.reduceBeqDiff, Nat.reduceEqDiff, ↓reduceIte, reduceCtorEq, Nat.reduceAdd, Nat.reduceMul, Nat.reduceLeDiff, Nat.reduceLT, Int.reduceLT, Int.reduceLE, Int.reduceEq, h0, h1, h8, h9', i1, i2, z2g]); (refine hK _ ?_); (clear hK K)
   (refine zqm _ rfl (fun hc => ?_) (fun hc => ?_)) <;> (simp only [z0e] at hc)
   ·have w6 : IntKind.i64.wrap ((Lcs.at_ a b (i + 1) (k + 1) : Int) + 1) = (Lcs.at_ a b (i + 1) (k + 1) : Int) + 1 := z2z (by omega)
    rw [if_pos hc] at hst
    refine z32 ?_
    simp only [go_sem, Nat.reduceBEq, Nat.reduceBeqDiff, Nat.reduceEqDiff, ↓reduceIte, reduceCtorEq, Nat.reduceAdd, Nat.reduceMul, Nat.reduceLeDiff, Nat.reduceLT, Int.reduceLT, Int.reduceLE, Int.reduceEq, h7, h8, h9', wi, wk]
    refine z34 (rc36 (i + 1) (k + 1) (b.length + 1) _ cs _ hH2 hH1 hH0 O.1 v3 hcl) ?_
    simp only [go_sem, Nat.reduceBEq, Nat.reduceBeqDiff, Nat.reduceEqDiff, ↓reduceIte, reduceCtorEq, Nat.reduceAdd, Nat.reduceMul, Nat.reduceLeDiff, Nat.reduceLT, Int.reduceLT, Int.reduceLE, Int.reduceEq, h7, h8, h9', wi, wk, w6]
    refine (show K4 _ from tail _ h0 h1 h5 h6 h7 h8 h9' ?_ hH0 hH1 hH2)
    show D.int .i64 _ = D.int .i64 _
    rw [hst]; congr 1; omega
   ·rw [if_neg hc] at hst
    refine zqk (tail _ h0 h1 h5 h6 h7 h8 h9' ?_ hH0 hH1 hH2)
    show D.int .i64 _ = D.int .i64 _
    rw [hst]; congr 1; omega
  ·refine zql (show K2 _ from hK2 _ ?_)
   obtain rfl : m = 0 := by omega
   have wi2 : IntKind.i64.wrap ((i : Int) - 1) = (i : Int) - 1 := z2z (by omega)
   (refine z32 ?_); (simp only [go_sem, Nat.reduceBEq, Nat.reduceBeqDiff, Nat.reduceEqDiff, ↓reduceIte, reduceCtorEq, Nat.reduceAdd, Nat.reduceMul, Nat.reduceLeDiff, Nat.reduceLT, Int.reduceLT, Int.reduceLE, Int.reduceEq, h8, wi2])
   exact ⟨i, by omega, cs, by omega, h0, h1, h5, h6, h7, rfl, hH0, hH1, hH2, O⟩
 ·refine zql (show K _ from hK _ ?_)
  obtain rfl : n = 0 := by omega
  have hcs := Lcs.known_all O
  subst hcs
  (refine zqh fun K hK => ?_); (simp only [go_sem, Nat.reduceBEq, Nat.reduceBeqDiff, Nat.reduceEqDiff, ↓reduceIte, reduceCtorEq, Nat.reduceAdd, Nat.reduceMul, Nat.reduceLeDiff, Nat.reduceLT, Int.reduceLT, Int.reduceLE, Int.reduceEq, h7]); (refine hK _ ?_); (clear hK K)
  (refine zqn ?_); (refine Exists.intro _ (And.intro rfl ?_))
  refine zbh (zgb 3 rfl (z0b ?_ (z0b ?_ z40)))
  ·exact z3f 2 hH2 (by first | rfl | kernel_rfl) (z7f 0 hH1 z2r z5o (by simpa using Lcs.tab_len a b) (z0g (fun _ => rfl) _))
  ·exact z3f 2 hH0 z2r (z07 _ rfl)
def atD (a b : List ByteArray) : D := .fn 96 [.rptr (z8p (Lcs.tab a b)), .rptr (.int .i64 ((b.length + 1 : Nat) : Int))]
theorem zl3 (a b : List ByteArray) : pureD (atD a b) = true := by simp only [atD, pureD, pureD.pureL, z54, Bool.and_self]
theorem pcAt (a b : List ByteArray) (ha : a.length <= 256) (hb : b.length <= 256) (i k : Nat) (hi : i <= a.length) (O : k <= b.length) : PC prog 96 [.int .i64 i, .int .i64 k, .rptr (z8p (Lcs.tab a b)), .rptr (.int .i64 ((b.length + 1 : Nat) : Int))] (.int .i64 (Lcs.at_ a b i k : Int)) :=
 pc36 i k (b.length + 1) (Lcs.tab a b) _ (Lcs.tab_get a b i k hi O) (by
  have hm : (a.length + 1) * (b.length + 1) <= 66049 := Nat.mul_le_mul (show a.length + 1 <= 257 by omega) (show b.length + 1 <= 257 by omega)
  rw [Lcs.tab_len]; omega)
set_option maxHeartbeats 2000000 in
theorem pc29 (a b : List ByteArray) (ha : a.length <= 256) (hb : b.length <= 256) (i k : Nat) (hi : i <= a.length) (O : k <= b.length) :
  PC prog 82 [.int .i64 i, .int .i64 k, .rptr (z2g a), .rptr (z2g b), .rptr (atD a b)] (.agg [.int .i64 ((Lcs.next a b i k).1 : Int), .int .i64 ((Lcs.next a b i k).2 : Int)]) := by
 refine z3l 2 (by simp only [pureD.pureL, pureD, z3e, zl3, Bool.and_self]) rfl (z2o [] func82 rfl (by decide +kernel) rfl ?_)
 show awp _ _ (Code.seq _ _) _ _
 (refine zqh fun K hK => ?_); (simp only [go_sem, Nat.reduceBEq, Nat.reduceBeqDiff, Nat.reduceEqDiff, ↓reduceIte, reduceCtorEq, Nat.reduceAdd, Nat.reduceMul, Nat.reduceLeDiff, Nat.reduceLT, Int.reduceLT, Int.reduceLE, Int.reduceEq]); (refine hK _ ?_); (clear hK K)
 repeat refine zqj ?_
 (refine zqh fun K hK => ?_); (simp only [go_sem, Nat.reduceBEq, Nat.reduceBeqDiff, Nat.reduceEqDiff, ↓reduceIte, reduceCtorEq, Nat.reduceAdd, Nat.reduceMul, Nat.reduceLeDiff, Nat.reduceLT, Int.reduceLT, Int.reduceLE, Int.reduceEq, z2g, atD]); (refine hK _ ?_); (clear hK K)
 refine z1a fun K hK => ?_
 refine zqi (z4o (fun n st => ∃ x : Nat, n = a.length - x /\ x <= a.length /\ st.t 0 = .int .i64 i /\ st.t 1 = .int .i64 k /\ st.t 2 = .rptr (z2g a) /\ st.t 3 = .rptr (z2g b) /\ st.t 4 = .rptr (atD a b) /\ st.t 7 = .ptr 0 0 /\ st.t 8 = .int .i64 x /\
   st.H 0 = some (.box 90 [.int .i64 0, .int .i64 0]) /\ Lcs.search a b (Lcs.at_ a b i k) k i = Lcs.search a b (Lcs.at_ a b i k) k x) (a.length - i) ?_ ?_)
 ·exact ⟨i, rfl, hi, rfl, rfl, rfl, rfl, rfl, rfl, rfl, rfl, rfl⟩
 rintro n st ⟨x, rfl, hx, h0, h1, h2, h3, h4, h7, h8, hH, hs⟩
 repeat refine zqj ?_
 (refine zqh fun K hK => ?_); (simp only [go_sem, Nat.reduceBEq, Nat.reduceBeqDiff, Nat.reduceEqDiff, ↓reduceIte, reduceCtorEq, Nat.reduceAdd, Nat.reduceMul, Nat.reduceLeDiff, Nat.reduceLT, Int.reduceLT, Int.reduceLE, Int.reduceEq, h8, h2, z2g]); (refine hK _ ?_); (clear hK K)
 refine z1a fun K2 hK2 => ?_
 (refine zqm _ rfl (fun hc => ?_) (fun hc => ?_)) <;> (simp only [z0e] at hc)
 ·have hx' : x < a.length := by omega
  refine zqk (hK2 _ ?_); clear hK2 K2
  refine z1a fun K2 hK2 => ?_
  refine zqi ?_
  repeat refine zqj ?_
  (refine zqh fun K hK => ?_); (simp only [go_sem, Nat.reduceBEq, Nat.reduceBeqDiff, Nat.reduceEqDiff, ↓reduceIte, reduceCtorEq, Nat.reduceAdd, Nat.reduceMul, Nat.reduceLeDiff, Nat.reduceLT, Int.reduceLT, Int.reduceLE, Int.reduceEq, h1]); (refine hK _ ?_); (clear hK K)
  refine zqi (z4o (fun n st => ∃ y : Nat, n = b.length - y /\ y <= b.length /\ st.t 0 = .int .i64 i /\ st.t 1 = .int .i64 k /\ st.t 2 = .rptr (z2g a) /\ st.t 3 = .rptr (z2g b) /\ st.t 4 = .rptr (atD a b) /\ st.t 7 = .ptr 0 0 /\ st.t 8 = .int .i64 x /\ st.t 9 = .int .i64 y /\
    st.H 0 = some (.box 90 [.int .i64 0, .int .i64 0]) /\ Lcs.inRow a b (Lcs.at_ a b i k) x k = Lcs.inRow a b (Lcs.at_ a b i k) x y) (b.length - k) ?_ ?_)
  ·exact ⟨k, rfl, O, h0, h1, h2, h3, h4, h7, h8, rfl, hH, rfl⟩
  clear h0 h1 h2 h3 h4 h7 h8 hH
  rintro n st ⟨y, rfl, hy, h0, h1, h2, h3, h4, h7, h8, h9, hH, hr⟩
  repeat refine zqj ?_
  (refine zqh fun K hK => ?_); (simp only [go_sem, Nat.reduceBEq, Nat.reduceBeqDiff, Nat.reduceEqDiff, ↓reduceIte, reduceCtorEq, Nat.reduceAdd, Nat.reduceMul, Nat.reduceLeDiff, Nat.reduceLT, Int.reduceLT, Int.reduceLE, Int.reduceEq, h9, h3, z2g]); (refine hK _ ?_); (clear hK K)
  refine z1a fun K3 hK3 => ?_
  (refine zqm _ rfl (fun hc => ?_) (fun hc => ?_)) <;> (simp only [z0e] at hc)
  ·have hy' : y < b.length := by omega
   refine zqk (hK3 _ ?_); clear hK3 K3
   refine z1a fun K3 hK3 => ?_
   refine zqi ?_
   repeat refine zqj ?_
   have i1 := z3d D.str a x hx'
   have i2 := z3d D.str b y hy'
   have wx : IntKind.i64.wrap ((x : Int) + 1) = ((x + 1 : Nat) : Int) := z2z (by omega)
   have wy : IntKind.i64.wrap ((y : Int) + 1) = ((y + 1 : Nat) : Int) := z2z (by omega)
   have l1 := Lcs.at_le a b (x + 1) (y + 1)
   have wn : IntKind.i64.wrap ((Lcs.at_ a b (x + 1) (y + 1) : Int) + 1) = ((Lcs.at_ a b (x + 1) (y + 1) + 1 : Nat) : Int) := z2z (by omega)
   have hst := Lcs.inRow_step a b (Lcs.at_ a b i k) x y hy'
   have tail : ∀ st' : St, Lcs.inRow a b (Lcs.at_ a b i k) x k = Lcs.inRow a b (Lcs.at_ a b i k) x (y + 1) -> st'.t 0 = .int .i64 i -> st'.t 1 = .int .i64 k -> st'.t 2 = .rptr (z2g a) -> st'.t 3 = .rptr (z2g b) -> st'.t 4 = .rptr (atD a b) -> st'.t 7 = .ptr 0 0 -> st'.t 8 = .int .i64 x -> st'.t 9 = .int .i64 y ->
     st'.H 0 = some (.box 90 [.int .i64 0, .int .i64 0]) -> K3 st' := by
    intro st' hr h0 h1 h2 h3 h4 h7 h8 h9 hH
    refine hK3 _ ?_
    (refine z32 ?_); (simp only [go_sem, Nat.reduceBEq, Nat.reduceBeqDiff, Nat.reduceEqDiff, ↓reduceIte, reduceCtorEq, Nat.reduceAdd, Nat.reduceMul, Nat.reduceLeDiff, Nat.reduceLT, Int.reduceLT, Int.reduceLE, Int.reduceEq, h9, wy])
    exact ⟨b.length - (y + 1), by omega, y + 1, rfl, by omega, h0, h1, h2, h3, h4, h7, h8, rfl, hH, hr⟩
   have ea : a[x]? = some a[x] := List.getElem?_eq_getElem hx'
   have eb : b[y]? = some b[y] := List.getElem?_eq_getElem hy'
   by_cases c1 : a[x] = b[y]
   ·refine zqe (by decide +kernel) fun K hK => ?_
    simp only [go_sem, Nat.reduceBEq, Nat.reduceBeqDiff, Nat.reduceEqDiff, ↓reduceIte, reduceCtorEq, Nat.reduceAdd, Nat.reduceMul, Nat.reduceLeDiff, Nat.reduceLT, Int.reduceLT, Int.reduceLE, Int.reduceEq, h8, h9, h2, h3, h4, h0, h1, i1, i2, z2g, c1, wx, wy, atD]
    refine zqt (pcAt a b ha hb (x + 1) (y + 1) (by omega) (by omega)) ?_
    simp only [go_sem, Nat.reduceBEq, Nat.reduceBeqDiff, Nat.reduceEqDiff, ↓reduceIte, reduceCtorEq, Nat.reduceAdd, Nat.reduceMul, Nat.reduceLeDiff, Nat.reduceLT, Int.reduceLT, Int.reduceLE, Int.reduceEq, h8, h9, h2, h3, h4, h0, h1, i1, i2, z2g, c1, wx, wy, wn, atD]
    refine zqt (pcAt a b ha hb i k hi O) ?_
    simp only [go_sem, Nat.reduceBEq, Nat.reduceBeqDiff, Nat.reduceEqDiff, ↓reduceIte, reduceCtorEq, Nat.reduceAdd, Nat.reduceMul, Nat.reduceLeDiff, Nat.reduceLT, Int.reduceLT, Int.reduceLE, Int.reduceEq, h8, h9, h2, h3, h4, h0, h1, i1, i2, z2g, c1, wx, wy, wn, atD]
    refine hK _ ?_
    clear hK K
    (refine zqm _ rfl (fun hc => ?_) (fun hc => ?_)) <;> (simp only [z0e] at hc)
    ·have hg : Lcs.good a b (Lcs.at_ a b i k) x y = true := by
      unfold Lcs.good
      rw [ea, eb, c1]
      have : Lcs.at_ a b (x + 1) (y + 1) + 1 = Lcs.at_ a b i k := by omega
      simp [this]
     (refine zqh fun K hK => ?_); (simp only [go_sem, Nat.reduceBEq, Nat.reduceBeqDiff, Nat.reduceEqDiff, ↓reduceIte, reduceCtorEq, Nat.reduceAdd, Nat.reduceMul, Nat.reduceLeDiff, Nat.reduceLT, Int.reduceLT, Int.reduceLE, Int.reduceEq, h8, h9, h7, hH]); (refine hK _ ?_); (clear hK K)
     (refine zqn ?_); (refine Exists.intro _ (And.intro ((show zy8 _ _ [.cell 7 90] = _ from (by simp only [go_sem, Nat.reduceBEq, Nat.reduceBeqDiff, Nat.reduceEqDiff, ↓reduceIte, reduceCtorEq, Nat.reduceAdd, Nat.reduceMul, Nat.reduceLeDiff, Nat.reduceLT, Int.reduceLT, Int.reduceLE, Int.reduceEq, h7]; rfl))) ?_))
     refine ⟨_, z07 1 rfl, ?_⟩
     rw [if_pos hg] at hst
     have h9 := Lcs.search_step a b (Lcs.at_ a b i k) k x hx'
     rw [hr, hst] at h9
     unfold Lcs.next
     rw [hs, h9]
     exact Le.refl _
    ·refine zqk (tail _ ?_ h0 h1 h2 h3 h4 h7 h8 h9 hH)
     rw [hr, hst, if_neg]
     unfold Lcs.good
     simp only [Bool.and_eq_true, decide_eq_true_eq]
     omega
   ·(refine zqe (by decide +kernel) fun K hK => ?_); (simp only [go_sem, Nat.reduceBEq, Nat.reduceBeqDiff, Nat.reduceEqDiff, ↓reduceIte, reduceCtorEq, Nat.reduceAdd, Nat.reduceMul, Nat.reduceLeDiff, Nat.reduceLT, Int.reduceLT, Int.reduceLE, Int.reduceEq, h8, h9, h2, h3, i1, i2, z2g, c1]); (refine hK _ ?_); (clear hK K)
    refine zqm false rfl (fun hc => (by cases hc)) (fun _ => ?_)
    refine zqk (tail _ ?_ h0 h1 h2 h3 h4 h7 h8 h9 hH)
    rw [hr, hst, if_neg]
    unfold Lcs.good
    simp only [Bool.and_eq_true, decide_eq_true_eq, ea, eb, Option.some.injEq]
    exact fun h => c1 h.1
  ·refine zql (show K2 _ from hK2 _ ?_)
   have wx : IntKind.i64.wrap ((x : Int) + 1) = ((x + 1 : Nat) : Int) := z2z (by omega)
   (refine z32 ?_); (simp only [go_sem, Nat.reduceBEq, Nat.reduceBeqDiff, Nat.reduceEqDiff, ↓reduceIte, reduceCtorEq, Nat.reduceAdd, Nat.reduceMul, Nat.reduceLeDiff, Nat.reduceLT, Int.reduceLT, Int.reduceLE, Int.reduceEq, h8, wx])
   refine ⟨a.length - (x + 1), by omega, x + 1, rfl, by omega, h0, h1, h2, h3, h4, h7, rfl, hH, ?_⟩
   have h9 := Lcs.search_step a b (Lcs.at_ a b i k) k x hx'
   rw [hr, Lcs.inRow_end a b _ x y (by omega)] at h9
   rw [hs, h9]
 ·refine zql (show K _ from hK _ ?_)
  (refine zqh fun K hK => ?_); (simp only [go_sem, Nat.reduceBEq, Nat.reduceBeqDiff, Nat.reduceEqDiff, ↓reduceIte, reduceCtorEq, Nat.reduceAdd, Nat.reduceMul, Nat.reduceLeDiff, Nat.reduceLT, Int.reduceLT, Int.reduceLE, Int.reduceEq, h2, h3, h7, hH, z2g]); (refine hK _ ?_); (clear hK K)
  (refine zqn ?_); (refine Exists.intro _ (And.intro ((show zy8 _ _ [.cell 7 90] = _ from (by simp only [go_sem, Nat.reduceBEq, Nat.reduceBeqDiff, Nat.reduceEqDiff, ↓reduceIte, reduceCtorEq, Nat.reduceAdd, Nat.reduceMul, Nat.reduceLeDiff, Nat.reduceLT, Int.reduceLT, Int.reduceLE, Int.reduceEq, h7]; rfl))) ?_))
  refine ⟨_, z07 1 rfl, ?_⟩
  unfold Lcs.next
  rw [hs, Lcs.search_end a b _ k x (by omega)]
  exact Le.refl _
theorem pc35 (a : List ByteArray) : PC prog 95 [z2g a] (.bool (decide (256 < (a.length : Int)))) := by
 refine z3l 1 (by simp only [pureD.pureL, z3e, Bool.and_self]) rfl (z2o [] func95 rfl (by decide +kernel) rfl ?_)
 show awp _ _ (Code.seq _ _) _ _
 (refine zqh fun K hK => ?_); (simp only [go_sem, Nat.reduceBEq, Nat.reduceBeqDiff, Nat.reduceEqDiff, ↓reduceIte, reduceCtorEq, Nat.reduceAdd, Nat.reduceMul, Nat.reduceLeDiff, Nat.reduceLT, Int.reduceLT, Int.reduceLE, Int.reduceEq]); (refine hK _ ?_); (clear hK K)
 (refine zqh fun K hK => ?_); (simp only [go_sem, Nat.reduceBEq, Nat.reduceBeqDiff, Nat.reduceEqDiff, ↓reduceIte, reduceCtorEq, Nat.reduceAdd, Nat.reduceMul, Nat.reduceLeDiff, Nat.reduceLT, Int.reduceLT, Int.reduceLE, Int.reduceEq, z2g]); (refine hK _ ?_); (clear hK K)
 (refine zqn ?_); (refine Exists.intro _ (And.intro rfl ?_))
 exact z04 rfl
def z2m (a : List ByteArray) : Bool := decide (256 < (a.length : Int))
def zfa (rows : List (List ByteArray)) : Int := match rows.findIdx? z2m with | some n => (n : Int) | none => -1
theorem zgy (rows : List (List ByteArray)) : (0 <= zfa rows) ↔ rows.any z2m = true := by
 unfold zfa
 cases h : rows.findIdx? z2m with
 | none =>
  rw [List.findIdx?_eq_none_iff] at h
  simp only [List.any_eq_true]
  constructor
  ·intro h; omega
  ·rintro ⟨x, hx, hp⟩; rw [h x hx] at hp; cases hp
 | some i =>
  rw [List.findIdx?_eq_some_iff_getElem] at h
  obtain ⟨hi, hp, _⟩ := h
  simp only [List.any_eq_true]
  constructor
  ·intro _; exact ⟨_, List.getElem_mem hi, hp⟩
  ·intro _; omega
theorem zdd (nn : Bool) (rows : List (List ByteArray)) : pureD (.rsl nn 1 (rows.map z2g)) = true := by simp only [pureD]; exact z0g (fun x => z3e x) rows
set_option maxHeartbeats 2000000 in
theorem pc37 (nn : Bool) (rows : List (List ByteArray)) (hl : rows.length <= 1000) : PC prog 105 [.rsl nn 1 (rows.map z2g), .fn 95 []] (.int .i64 (zfa rows)) := by
 refine z3l 1 (by simp only [pureD.pureL, zdd]; rfl) rfl (z2o [] func105 rfl (by decide +kernel) rfl ?_)
 show awp _ _ (Code.seq _ _) _ _
 (refine zqh fun K hK => ?_); (simp only [go_sem, Nat.reduceBEq, Nat.reduceBeqDiff, Nat.reduceEqDiff, ↓reduceIte, reduceCtorEq, Nat.reduceAdd, Nat.reduceMul, Nat.reduceLeDiff, Nat.reduceLT, Int.reduceLT, Int.reduceLE, Int.reduceEq]); (refine hK _ ?_); (clear hK K)
 repeat refine zqj ?_
 (refine zqh fun K hK => ?_); (simp only [go_sem, Nat.reduceBEq, Nat.reduceBeqDiff, Nat.reduceEqDiff, ↓reduceIte, reduceCtorEq, Nat.reduceAdd, Nat.reduceMul, Nat.reduceLeDiff, Nat.reduceLT, Int.reduceLT, Int.reduceLE, Int.reduceEq]); (refine hK _ ?_); (clear hK K)
 refine z1a fun K hK => ?_
 refine zqi (z4o (fun n st => ∃ k : Nat, n = rows.length - k /\ k <= rows.length /\ st.t 0 = .rsl nn 1 (rows.map z2g) /\ st.t 1 = .fn 95 [] /\ st.t 7 = .int .i64 rows.length /\ st.t 8 = .int .i64 k /\ ∀ j, ∀ h : j < rows.length, j < k -> z2m rows[j] = false) rows.length ?_ ?_)
 ·exact ⟨0, by simp, by simp, rfl, rfl, rfl, rfl, fun j _ h => by omega⟩
 rintro n st ⟨k, rfl, O, h0, h1, h7, h8, hj⟩
 repeat refine zqj ?_
 (refine zqh fun K hK => ?_); (simp only [go_sem, Nat.reduceBEq, Nat.reduceBeqDiff, Nat.reduceEqDiff, ↓reduceIte, reduceCtorEq, Nat.reduceAdd, Nat.reduceMul, Nat.reduceLeDiff, Nat.reduceLT, Int.reduceLT, Int.reduceLE, Int.reduceEq, h8, h7]); (refine hK _ ?_); (clear hK K)
 refine z1a fun K2 hK2 => ?_
 (refine zqm _ rfl (fun hc => ?_) (fun hc => ?_)) <;> (simp only [z0e] at hc)
 ·have hk' : k < rows.length := by omega
  refine zqk (hK2 _ ?_); clear hK2 K2
  refine z1a fun K2 hK2 => ?_
  refine zqi ?_
  repeat refine zqj ?_
  have i1 := z3d z2g rows k hk'
  have wk : IntKind.i64.wrap ((k : Int) + 1) = ((k + 1 : Nat) : Int) := z2z (by omega)
  (refine zqh fun K hK => ?_); (simp only [go_sem, Nat.reduceBEq, Nat.reduceBeqDiff, Nat.reduceEqDiff, ↓reduceIte, reduceCtorEq, Nat.reduceAdd, Nat.reduceMul, Nat.reduceLeDiff, Nat.reduceLT, Int.reduceLT, Int.reduceLE, Int.reduceEq, h8]); (refine hK _ ?_); (clear hK K)
  repeat refine zqj ?_
  refine zqh fun K hK => ?_
  simp only [go_sem, Nat.reduceBEq, Nat.reduceBeqDiff, Nat.reduceEqDiff, ↓reduceIte, reduceCtorEq, Nat.reduceAdd, Nat.reduceMul, Nat.reduceLeDiff, Nat.reduceLT, Int.reduceLT, Int.reduceLE, Int.reduceEq, h0, h1, h8, i1, z2g]
  refine zqs (pc35 rows[k]) ?_
  simp only [go_sem, Nat.reduceBEq, Nat.reduceBeqDiff, Nat.reduceEqDiff, ↓reduceIte, reduceCtorEq, Nat.reduceAdd, Nat.reduceMul, Nat.reduceLeDiff, Nat.reduceLT, Int.reduceLT, Int.reduceLE, Int.reduceEq]
  refine hK _ ?_
  clear hK K
  (refine zqm _ rfl (fun hc => ?_) (fun hc => ?_)) <;> (simp only [z0e] at hc)
  ·(refine zqh fun K hK => ?_); (simp only [go_sem, Nat.reduceBEq, Nat.reduceBeqDiff, Nat.reduceEqDiff, ↓reduceIte, reduceCtorEq, Nat.reduceAdd, Nat.reduceMul, Nat.reduceLeDiff, Nat.reduceLT, Int.reduceLT, Int.reduceLE, Int.reduceEq, h8]); (refine hK _ ?_); (clear hK K)
   (refine zqn ?_); (refine Exists.intro _ (And.intro rfl ?_))
   refine z2b ?_
   have : rows.findIdx? z2m = some k := by
    rw [List.findIdx?_eq_some_iff_getElem]
    exact ⟨hk', by unfold z2m; simp [hc], fun j hjk => by rw [hj j (by omega) hjk]; simp⟩
   unfold zfa; rw [this]
  ·refine zqk (show K2 _ from hK2 _ ?_)
   (refine z32 ?_); (simp only [go_sem, Nat.reduceBEq, Nat.reduceBeqDiff, Nat.reduceEqDiff, ↓reduceIte, reduceCtorEq, Nat.reduceAdd, Nat.reduceMul, Nat.reduceLeDiff, Nat.reduceLT, Int.reduceLT, Int.reduceLE, Int.reduceEq, h8, wk])
   refine ⟨rows.length - (k + 1), by omega, k + 1, rfl, by omega, h0, h1, h7, rfl, fun j h hjk => ?_⟩
   by_cases he : j = k
   ·subst he; unfold z2m; simpa using hc
   ·exact hj j h (by omega)
 ·refine zql (show K _ from hK _ ?_)
  (refine zqh fun K hK => ?_); (simp only [go_sem, Nat.reduceBEq, Nat.reduceBeqDiff, Nat.reduceEqDiff, ↓reduceIte, reduceCtorEq, Nat.reduceAdd, Nat.reduceMul, Nat.reduceLeDiff, Nat.reduceLT, Int.reduceLT, Int.reduceLE, Int.reduceEq]); (refine hK _ ?_); (clear hK K)
  (refine zqn ?_); (refine Exists.intro _ (And.intro rfl ?_))
  refine z2b ?_
  have : rows.findIdx? z2m = none := by
   rw [List.findIdx?_eq_none_iff]
   intro x hx
   obtain ⟨j, hj', rfl⟩ := List.getElem_of_mem hx
   exact hj j hj' (by omega)
  unfold zfa; rw [this]
theorem pc34 (nn : Bool) (rows : List (List ByteArray)) (hl : rows.length <= 1000) : PC prog 94 [.rsl nn 1 (rows.map z2g), .fn 95 []] (.bool (rows.any z2m)) := by
 refine z3l 1 (by simp only [pureD.pureL, zdd]; rfl) rfl (z2o [] func94 rfl (by decide +kernel) rfl ?_)
 show awp _ _ (Code.seq _ _) _ _
 (refine zqh fun K hK => ?_); (simp only [go_sem, Nat.reduceBEq, Nat.reduceBeqDiff, Nat.reduceEqDiff, ↓reduceIte, reduceCtorEq, Nat.reduceAdd, Nat.reduceMul, Nat.reduceLeDiff, Nat.reduceLT, Int.reduceLT, Int.reduceLE, Int.reduceEq]); (refine hK _ ?_); (clear hK K)
 refine zqh fun K hK => ?_
 simp only [go_sem, Nat.reduceBEq, Nat.reduceBeqDiff, Nat.reduceEqDiff, ↓reduceIte, reduceCtorEq, Nat.reduceAdd, Nat.reduceMul, Nat.reduceLeDiff, Nat.reduceLT, Int.reduceLT, Int.reduceLE, Int.reduceEq]
 refine zqs (pc37 nn rows hl) ?_
 simp only [go_sem, Nat.reduceBEq, Nat.reduceBeqDiff, Nat.reduceEqDiff, ↓reduceIte, reduceCtorEq, Nat.reduceAdd, Nat.reduceMul, Nat.reduceLeDiff, Nat.reduceLT, Int.reduceLT, Int.reduceLE, Int.reduceEq]
 refine hK _ ?_
 clear hK K
 (refine zqn ?_); (refine Exists.intro _ (And.intro rfl ?_))
 refine z04 ?_
 have := zgy rows
 by_cases h : 0 <= zfa rows
 ·rw [this.1 h]; simp [h]
 ·have h2 : rows.any z2m = false := by
   cases hq : rows.any z2m with
   | true => exact (h (this.2 hq)).elim
   | false => rfl
  rw [h2]; simp [h]
theorem pc27 (nn : Bool) (rows : List (List ByteArray)) (hl : rows.length <= 1000) : PC prog 80 [.rsl nn 1 (rows.map z2g)] (.bool (rows.any z2m)) := by
 refine z3l 1 (by simp only [pureD.pureL, zdd]; rfl) rfl (z2o [] func80 rfl (by decide +kernel) rfl ?_)
 show awp _ _ (Code.seq _ _) _ _
 (refine zqh fun K hK => ?_); (simp only [go_sem, Nat.reduceBEq, Nat.reduceBeqDiff, Nat.reduceEqDiff, ↓reduceIte, reduceCtorEq, Nat.reduceAdd, Nat.reduceMul, Nat.reduceLeDiff, Nat.reduceLT, Int.reduceLT, Int.reduceLE, Int.reduceEq]); (refine hK _ ?_); (clear hK K)
 refine zqh fun K hK => ?_
 simp only [go_sem, Nat.reduceBEq, Nat.reduceBeqDiff, Nat.reduceEqDiff, ↓reduceIte, reduceCtorEq, Nat.reduceAdd, Nat.reduceMul, Nat.reduceLeDiff, Nat.reduceLT, Int.reduceLT, Int.reduceLE, Int.reduceEq]
 refine zqs (pc34 nn rows hl) ?_
 simp only [go_sem, Nat.reduceBEq, Nat.reduceBeqDiff, Nat.reduceEqDiff, ↓reduceIte, reduceCtorEq, Nat.reduceAdd, Nat.reduceMul, Nat.reduceLeDiff, Nat.reduceLT, Int.reduceLT, Int.reduceLE, Int.reduceEq]
 refine hK _ ?_
 clear hK K
 (refine zqn ?_); (refine Exists.intro _ (And.intro rfl ?_))
 exact z04 rfl
def z22 (p : Nat × Nat) : List D := [.int .i64 (p.1 : Int), .int .i64 (p.2 : Int)]
def zt4 (l : List (Nat × Nat)) : D := .rsl false 2 (l.map fun p => .agg (z22 p))
theorem zhv (l : List (Nat × Nat)) : pureD (zt4 l) = true := by simp only [zt4, pureD]; exact z0g (fun _ => rfl) l
theorem Lcs.pairsF_len {α : Type} [DecidableEq α] (a b : List α) : ∀ n i k, (Lcs.pairsF a b n i k).length = n
 | 0, _, _ => rfl
 | n + 1, i, k => by simp [Lcs.pairsF, Lcs.pairsF_len a b n]
theorem rc29 {H : HM} {nx : Nat} (a b : List ByteArray) (ha : a.length <= 256) (hb : b.length <= 256) (i k : Nat) (hi : i <= a.length) (O : k <= b.length) (h0 : H 0 = some (.box 79 [z2g a])) (h1 : H 1 = some (.box 79 [z2g b])) (h2 : H 2 = some (.box 125 [atD a b])) :
  RC prog 82 [.int .i64 i, .int .i64 k, .ptr 0 0, .ptr 1 0, .ptr 2 0] H nx (.agg [.int .i64 ((Lcs.next a b i k).1 : Int), .int .i64 ((Lcs.next a b i k).2 : Int)]) := by
 refine PC.borrow (pc29 a b ha hb i k hi O) rfl 2 ?_
 refine z0b (z07 _ rfl) (z0b (z07 _ rfl) (z0b ?_ (z0b ?_ (z0b ?_ z40))))
 ·exact z3f 1 h0 zme (z07 _ (z3e a))
 ·exact z3f 1 h1 zme (z07 _ (z3e b))
 ·exact z3f 1 h2 zsq (z07 _ (zl3 a b))
set_option maxHeartbeats 2000000 in
theorem ac15 (a b : List ByteArray) (ha : a.length <= maxLen) (hb : b.length <= maxLen) : AC prog 62 [z2g a, z2g b] noH 0 fun d H _ =>
  ((256 < a.length \/ 256 < b.length) /\ d = .nil) \/ (¬ (256 < a.length \/ 256 < b.length) /\ d = .osl 3 (Lcs.pairs a b).length /\ H 3 = some (.row 90 (Lcs.pairs a b).length ((Lcs.pairs a b).flatMap z22))) := by
 unfold maxLen at ha hb
 refine (z2o [7] func62 rfl (by decide +kernel) rfl ?_)
 show awp _ _ (Code.seq _ _) _ _
 (refine zqh fun K hK => ?_); (simp only [go_sem, Nat.reduceBEq, Nat.reduceBeqDiff, Nat.reduceEqDiff, ↓reduceIte, reduceCtorEq, Nat.reduceAdd, Nat.reduceMul, Nat.reduceLeDiff, Nat.reduceLT, Int.reduceLT, Int.reduceLE, Int.reduceEq, z2g]); (refine hK _ ?_); (clear hK K)
 repeat refine zqj ?_
 refine zqh fun K hK => ?_
 simp only [go_sem, Nat.reduceBEq, Nat.reduceBeqDiff, Nat.reduceEqDiff, ↓reduceIte, reduceCtorEq, Nat.reduceAdd, Nat.reduceMul, Nat.reduceLeDiff, Nat.reduceLT, Int.reduceLT, Int.reduceLE, Int.reduceEq]
 refine zqs (pc27 true [a, b] (by simp)) ?_
 simp only [go_sem, Nat.reduceBEq, Nat.reduceBeqDiff, Nat.reduceEqDiff, ↓reduceIte, reduceCtorEq, Nat.reduceAdd, Nat.reduceMul, Nat.reduceLeDiff, Nat.reduceLT, Int.reduceLT, Int.reduceLE, Int.reduceEq]
 refine hK _ ?_
 clear hK K
 refine z1a fun K hK => ?_
 by_cases hlong : 256 < a.length \/ 256 < b.length
 ·have ht : (z2m a || z2m b) = true := by
   unfold z2m
   simp only [Bool.or_eq_true, decide_eq_true_eq]
   omega
  simp only [ht]
  refine zqm true rfl (fun _ => ?_) (fun hc => (by cases hc))
  (refine zqh fun K hK => ?_); (simp only [go_sem, Nat.reduceBEq, Nat.reduceBeqDiff, Nat.reduceEqDiff, ↓reduceIte, reduceCtorEq, Nat.reduceAdd, Nat.reduceMul, Nat.reduceLeDiff, Nat.reduceLT, Int.reduceLT, Int.reduceLE, Int.reduceEq]); (refine hK _ ?_); (clear hK K)
  (refine zqn ?_); (refine Exists.intro _ (And.intro rfl ?_))
  exact .inl ⟨hlong, rfl⟩
 have ht : (z2m a || z2m b) = false := by
  unfold z2m
  simp only [Bool.or_eq_false_iff, decide_eq_false_iff_not]
  omega
 simp only [ht]
 refine zqm false rfl (fun hc => (by cases hc)) (fun _ => ?_)
 refine zqk (hK _ ?_); clear hK K
 have ha' : a.length <= 256 := by omega
 have hb' : b.length <= 256 := by omega
 repeat refine zqj ?_
 refine zqh fun K hK => ?_
 simp only [go_sem, Nat.reduceBEq, Nat.reduceBeqDiff, Nat.reduceEqDiff, ↓reduceIte, reduceCtorEq, Nat.reduceAdd, Nat.reduceMul, Nat.reduceLeDiff, Nat.reduceLT, Int.reduceLT, Int.reduceLE, Int.reduceEq]
 refine zqs (pc28 a b ha' hb') ?_
 simp only [go_sem, Nat.reduceBEq, Nat.reduceBeqDiff, Nat.reduceEqDiff, ↓reduceIte, reduceCtorEq, Nat.reduceAdd, Nat.reduceMul, Nat.reduceLeDiff, Nat.reduceLT, Int.reduceLT, Int.reduceLE, Int.reduceEq]
 refine hK _ ?_
 clear hK K
 (refine zqh fun K hK => ?_); (simp only [go_sem, Nat.reduceBEq, Nat.reduceBeqDiff, Nat.reduceEqDiff, ↓reduceIte, reduceCtorEq, Nat.reduceAdd, Nat.reduceMul, Nat.reduceLeDiff, Nat.reduceLT, Int.reduceLT, Int.reduceLE, Int.reduceEq]); (refine hK _ ?_); (clear hK K)
 (refine zqh fun K hK => ?_); (simp only [go_sem, Nat.reduceBEq, Nat.reduceBeqDiff, Nat.reduceEqDiff, ↓reduceIte, reduceCtorEq, Nat.reduceAdd, Nat.reduceMul, Nat.reduceLeDiff, Nat.reduceLT, Int.reduceLT, Int.reduceLE, Int.reduceEq]); (refine hK _ ?_); (clear hK K)
 repeat refine zqj ?_
 (refine zqh fun K hK => ?_); (simp only [go_sem, Nat.reduceBEq, Nat.reduceBeqDiff, Nat.reduceEqDiff, ↓reduceIte, reduceCtorEq, Nat.reduceAdd, Nat.reduceMul, Nat.reduceLeDiff, Nat.reduceLT, Int.reduceLT, Int.reduceLE, Int.reduceEq]); (refine hK _ ?_); (clear hK K)
 refine z1a fun K hK => ?_
 refine zqi (z4o (fun n st => ∃ (i k : Nat) (out : List (Nat × Nat)), n = Lcs.at_ a b i k /\ i <= a.length /\ k <= b.length /\ st.t 5 = .ptr 2 0 /\ st.t 6 = .fn 82 [.ptr 0 0, .ptr 1 0, .ptr 2 0] /\ st.t 7 = .osl 3 out.length /\ st.t 8 = .int .i64 i /\ st.t 9 = .int .i64 k /\
   st.H 0 = some (.box 79 [z2g a]) /\ st.H 1 = some (.box 79 [z2g b]) /\ st.H 2 = some (.box 125 [atD a b]) /\ st.H 3 = some (.row 90 out.length (out.flatMap z22)) /\ 4 <= st.nx /\ out ++ Lcs.pairsFrom a b i k = Lcs.pairsFrom a b 0 0) (Lcs.at_ a b 0 0) ?_ ?_)
 ·exact ⟨0, 0, [], rfl, Nat.zero_le _, Nat.zero_le _, rfl, rfl, rfl, rfl, rfl, rfl, rfl, rfl, rfl, by show 4 <= 4; omega, rfl⟩
 rintro n st ⟨i, k, out, rfl, hi, O, h5, h6, h7, h8, h9, hH0, hH1, hH2, hH3, hnx, ho⟩
 have hlen : out.length <= 256 := by
  have h1 := congrArg List.length ho
  simp only [List.length_append, Lcs.pairsFrom, Lcs.pairsF_len] at h1
  have h2 := Lcs.at_le a b 0 0
  omega
 repeat refine zqj ?_
 refine zqh fun K hK => ?_
 simp only [go_sem, Nat.reduceBEq, Nat.reduceBeqDiff, Nat.reduceEqDiff, ↓reduceIte, reduceCtorEq, Nat.reduceAdd, Nat.reduceMul, Nat.reduceLeDiff, Nat.reduceLT, Int.reduceLT, Int.reduceLE, Int.reduceEq, h5, h8, h9, hH2, atD]
 refine zqs (pcAt a b ha' hb' i k hi O) ?_
 simp only [go_sem, Nat.reduceBEq, Nat.reduceBeqDiff, Nat.reduceEqDiff, ↓reduceIte, reduceCtorEq, Nat.reduceAdd, Nat.reduceMul, Nat.reduceLeDiff, Nat.reduceLT, Int.reduceLT, Int.reduceLE, Int.reduceEq]
 refine hK _ ?_
 clear hK K
 refine z1a fun K2 hK2 => ?_
 (refine zqm _ rfl (fun hc => ?_) (fun hc => ?_)) <;> (simp only [z0e] at hc)
 ·refine zqk (hK2 _ ?_); clear hK2 K2
  repeat refine zqj ?_
  have hpos : 0 < Lcs.at_ a b i k := by omega
  have hcons := Lcs.pairsFrom_cons a b i k hpos
  obtain ⟨m, hm⟩ : ∃ m, Lcs.at_ a b i k = m + 1 := ⟨Lcs.at_ a b i k - 1, by omega⟩
  obtain ⟨q1, q2, q3, q4, q5, q6⟩ := Lcs.next_good a b i k m hm
  refine zqi ?_
  refine zqh fun K hK => ?_
  simp only [go_sem, Nat.reduceBEq, Nat.reduceBeqDiff, Nat.reduceEqDiff, ↓reduceIte, reduceCtorEq, Nat.reduceAdd, Nat.reduceMul, Nat.reduceLeDiff, Nat.reduceLT, Int.reduceLT, Int.reduceLE, Int.reduceEq, h6, h8, h9]
  refine z34 (rc29 a b ha' hb' i k hi O hH0 hH1 hH2) ?_
  simp only [go_sem, Nat.reduceBEq, Nat.reduceBeqDiff, Nat.reduceEqDiff, ↓reduceIte, reduceCtorEq, Nat.reduceAdd, Nat.reduceMul, Nat.reduceLeDiff, Nat.reduceLT, Int.reduceLT, Int.reduceLE, Int.reduceEq]
  refine hK _ ?_
  clear hK K
  have e0 : (0 == st.nx) = false := by simp; omega
  have e1 : (1 == st.nx) = false := by simp; omega
  have e2 : (2 == st.nx) = false := by simp; omega
  have e3 : (3 == st.nx) = false := by simp; omega
  have b1 : (out.length + 1) * 16 <= 140737488355328 := by omega
  have b2 : out.length <= 9223372036854775806 := by omega
  (refine zqh fun K hK => ?_); (simp only [go_sem, Nat.reduceBEq, Nat.reduceBeqDiff, Nat.reduceEqDiff, ↓reduceIte, reduceCtorEq, Nat.reduceAdd, Nat.reduceMul, Nat.reduceLeDiff, Nat.reduceLT, Int.reduceLT, Int.reduceLE, Int.reduceEq, h7, hH3, e3, b1, b2]); (refine hK _ ?_); (clear hK K)
  have wa : IntKind.i64.wrap (((Lcs.next a b i k).1 : Int) + 1) = (((Lcs.next a b i k).1 + 1 : Nat) : Int) := z2z (by omega)
  have wb : IntKind.i64.wrap (((Lcs.next a b i k).2 : Int) + 1) = (((Lcs.next a b i k).2 + 1 : Nat) : Int) := z2z (by omega)
  have e4 : (st.nx == 3) = false := by simp; omega
  (refine zcg (by decide +kernel) ?_); (simp only [go_sem, Nat.reduceBEq, Nat.reduceBeqDiff, Nat.reduceEqDiff, ↓reduceIte, reduceCtorEq, Nat.reduceAdd, Nat.reduceMul, Nat.reduceLeDiff, Nat.reduceLT, Int.reduceLT, Int.reduceLE, Int.reduceEq, wa, wb, e4])
  have n0 : ¬ (0 = st.nx) := by omega
  have n1 : ¬ (1 = st.nx) := by omega
  have n2 : ¬ (2 = st.nx) := by omega
  refine ⟨m, by omega, (Lcs.next a b i k).1 + 1, (Lcs.next a b i k).2 + 1, out ++ [Lcs.next a b i k], by omega, by omega, by omega, h5, h6, ?_, rfl, rfl, ?_, ?_, ?_, ?_, ?_, ?_⟩
  ·rw [List.length_append]; rfl
  ·simp only [go_sem, Nat.reduceBEq, Nat.reduceBeqDiff, Nat.reduceEqDiff, ↓reduceIte, reduceCtorEq, Nat.reduceAdd, Nat.reduceMul, Nat.reduceLeDiff, Nat.reduceLT, Int.reduceLT, Int.reduceLE, Int.reduceEq, e0, hH0]
  ·simp only [go_sem, Nat.reduceBEq, Nat.reduceBeqDiff, Nat.reduceEqDiff, ↓reduceIte, reduceCtorEq, Nat.reduceAdd, Nat.reduceMul, Nat.reduceLeDiff, Nat.reduceLT, Int.reduceLT, Int.reduceLE, Int.reduceEq, e1, hH1]
  ·simp only [go_sem, Nat.reduceBEq, Nat.reduceBeqDiff, Nat.reduceEqDiff, ↓reduceIte, reduceCtorEq, Nat.reduceAdd, Nat.reduceMul, Nat.reduceLeDiff, Nat.reduceLT, Int.reduceLT, Int.reduceLE, Int.reduceEq, e2, hH2]
  ·simp only [go_sem, Nat.reduceBEq, Nat.reduceBeqDiff, Nat.reduceEqDiff, ↓reduceIte, reduceCtorEq, Nat.reduceAdd, Nat.reduceMul, Nat.reduceLeDiff, Nat.reduceLT, Int.reduceLT, Int.reduceLE, Int.reduceEq, e3]
   simp [z22]
  ·show 4 <= st.nx + 1; omega
  ·rw [List.append_assoc, <- ho, hcons]; rfl
 ·refine zql (show K _ from hK _ ?_)
  (refine zqh fun K hK => ?_); (simp only [go_sem, Nat.reduceBEq, Nat.reduceBeqDiff, Nat.reduceEqDiff, ↓reduceIte, reduceCtorEq, Nat.reduceAdd, Nat.reduceMul, Nat.reduceLeDiff, Nat.reduceLT, Int.reduceLT, Int.reduceLE, Int.reduceEq, h7]); (refine hK _ ?_); (clear hK K)
  (refine zqn ?_); (refine Exists.intro _ (And.intro rfl ?_))
  rw [Lcs.pairsFrom_nil a b i k (by omega), List.append_nil] at ho
  refine .inr ⟨hlong, ?_, ?_⟩
  ·unfold Lcs.pairs; rw [if_neg hlong, <- ho]; rfl
  ·unfold Lcs.pairs; rw [if_neg hlong, <- ho]; exact hH3
theorem pc15 (a b : List ByteArray) (ha : a.length <= maxLen) (hb : b.length <= maxLen) : PC prog 62 [z2g a, z2g b] (zt4 (Lcs.pairs a b)) := by
 refine z3l 2 (by simp only [pureD.pureL, z3e, Bool.and_self]) (zhv _) ((ac15 a b ha hb).mono fun d H nx h => ?_)
 rcases h with ⟨hl, rfl⟩ | ⟨hl, rfl, hH⟩
 ·refine zpn ?_
  unfold Lcs.pairs; rw [if_pos hl]; rfl
 ·exact zbh (z29 0 hH zmh zsn (fun _ => rfl) (fun _ => rfl))
end
end Go.Proofs.YtfechgagcgbldaaDoor
namespace Go.Proofs.YtfechgagcgbldaaDoor.Abs
open Go.RowKit
variable {P : Program}
def hiH (n : Nat) (H : HM) : HM := fun id => if n <= id then H id else none
theorem zws {n id : Nat} {H : HM} (h : n <= id) : hiH n H id = H id := if_pos h
theorem zsz {s : RS} {w : World} (h : RH P s w) (H' : HM) (V : ∀ id, H' id = s.H id \/ H' id = none) : RH P { s with H := H' } w := by
 have hl : Later s { s with H := H' } := ⟨Nat.le_refl _, fun _ _ h => h, fun id _ => by
  rcases V id with e | e
  ·show objLe (s.H id) (H' id) _ _
   rw [e]; exact objLe.refl _ _
  ·show objLe (s.H id) (H' id) _ _
   rw [e]
   unfold objLe
   cases s.H id with
   | none => rfl
   | some o => cases o <;> exact .inl rfl⟩
 have ho : ∀ k, owned { s with H := H' } k -> owned s k := by
  rintro k ⟨id, hid, hH, hb⟩
  rcases V id with e | e
  ·exact ⟨id, hid, by rw [<- e]; exact hH, hb⟩
  ·exact (hH e).elim
 refine ⟨fun a u hm => ⟨(h.mem a u hm).1, fun O => (h.mem a u hm).2 (ho _ O)⟩, fun id o hido => ?_, fun i j hi hj hij hb => ?_, fun g => rel.later hl _ _ (h.glob g)⟩
 ·have hido : H' id = some o := hido
  rcases V id with e | e
  ·rw [e] at hido
   obtain ⟨h1, h2⟩ := h.obj id o hido
   exact ⟨h1, h2.mono hl fun b _ => rfl⟩
  ·rw [e] at hido; cases hido
 ·have hi' : s.H i ≠ none := by
   rcases V i with e | e
   ·rw [<- e]; exact hi
   ·exact (hi e).elim
  have hj' : s.H j ≠ none := by
   rcases V j with e | e
   ·rw [<- e]; exact hj
   ·exact (hj e).elim
  exact h.apart i j hi' hj' hij hb
noncomputable def finS (s : RS) (w : World) (n : Nat) : RS :=
 {m := (RS.shut { s with H := hiH n s.H } w).m, κ := s.κ, H := zor n s.H, nx := n }
theorem AC_fin {f : FuncId} {ds : List D} {H : HM} {nx k : Nat} {r : D} {KK : HM -> Prop} (hr : pureD r = true) (h : AC P f ds H nx fun r' H' _ => (∃ d, z2e P (hiH nx H') k r' = some d /\ Le d r) /\ KK H')
  (O : ∀ H', KK H' -> ∀ id o, id < nx -> H' id = some o -> H id = some o \/ lowO nx o = true) :
  AC P f ds H nx fun r' H2 nx2 => r' = r /\ nx2 = nx /\ ∃ H', KK H' /\ H2 = zor nx H' := by
 refine ⟨h.1, fun s w vs h1 h2 h3 h4 => (h.2 s w vs h1 h2 h3 h4).mono fun e w' ⟨v, r', s', he, ⟨⟨d, V, hle⟩, hK⟩, hstep, hRH, hrel⟩ => ?_⟩
 subst h1; subst h2
 have hlow := O _ hK
 let s1 : RS := { s' with H := hiH s.nx s'.H }
 have hl1 : Later s' s1 := ⟨Nat.le_refl _, fun _ _ h => h, fun id _ => by
  show objLe (s'.H id) (hiH s.nx s'.H id) _ _
  unfold hiH
  split
  ·exact objLe.refl _ _
  ·unfold objLe
   cases s'.H id with
   | none => rfl
   | some o => cases o <;> exact .inl rfl⟩
 have hRH1 : RH P s1 w' := zsz hRH _ fun id => by
  unfold hiH; split
  ·exact .inl rfl
  ·exact .inr rfl
 obtain ⟨hst1, hRH2⟩ := z8a hRH1
 have hrel1 : rel s1 r' v := rel.later hl1 _ _ hrel
 have hd2 : rel (s1.shut w') d v := zb2 hRH1 k r' v d hrel1 V
 have hr2 : rel (s1.shut w') r v := hle _ _ hd2
 let s2 : RS := finS s' w' s.nx
 have hm2 : ∀ a u, s'.m a = some u -> s2.m a = some u := fun a u hm => hst1.mem a u hm
 have hH : ∀ id, id < s.nx -> s2.H id = s'.H id /\ s2.κ id = s'.κ id := fun id hid => ⟨if_pos hid, rfl⟩
 have hown : ∀ k, owned s2 k -> ∃ id, id < s.nx /\ s'.H id ≠ none /\ blockOf (s'.κ id) = some k := fun k ⟨id, hid, h5, h6⟩ => by
  have hid : id < s.nx := hid
  rw [(hH id hid).1] at h5
  exact ⟨id, hid, h5, h6⟩
 have hown' : ∀ k, owned s2 k -> owned s' k := fun k hk2 => by
  obtain ⟨id, hid, h5, h6⟩ := hown k hk2
  exact ⟨id, Nat.lt_of_lt_of_le hid hstep.nx, h5, h6⟩
 -- memory: what was read, and the objects of the callee's own
 have hmem : ∀ a u, s2.m a = some u -> (s'.m a = some u) \/ (w'.cell? a = some u /\ ∃ id, s.nx <= id /\ s'.H id ≠ none /\ blockOf (s'.κ id) = some a.block) := by
  intro a u hu
  have hu : (s1.shut w').m a = some u := hu
  simp only [RS.shut] at hu
  split at hu
  ·rename_i ho
   obtain ⟨id, hid, h5, h6⟩ := ho
   have h5 : hiH s.nx s'.H id ≠ none := h5
   unfold hiH at h5
   split at h5
   ·rename_i hge
    exact .inr ⟨hu, id, hge, h5, h6⟩
   ·exact (h5 rfl).elim
  ·exact .inl hu
 have hcut : ∀ (d : D) (v : Value), lowD s.nx d = true -> rel s' d v -> rel s2 d v := zd4 (s := s') (s' := s2) hm2 (Nat.le_refl _) hH
 refine ⟨v, r, s2, he, ⟨rfl, rfl, s'.H, hK, rfl⟩, ?_, ?_, z18 (s := s1.shut w') (s' := s2) (fun _ _ h => h) _ _ hr hr2⟩
 ·refine ⟨hstep.os, hstep.tape, hstep.output, hstep.size, Nat.le_refl _, fun a u hm => hm2 a u (hstep.mem a u hm), fun a u hu => ?_, fun id hid => by rw [(hH id hid).1]; exact hstep.objs id hid, hstep.keep, fun k hk' => hstep.own k (hown' k hk')⟩
  rcases hmem a u hu with h5 | ⟨_, id, hge, h6, h7⟩
  ·exact hstep.new a u h5
  ·rcases hstep.own a.block ⟨id, hRH.fresh h6, h6, h7⟩ with h8 | h8
   ·exact .inr (.inr h8)
   ·exact .inr (.inl h8)
 ·refine ⟨fun a u hu => ?_, fun id o ho => ?_, fun i j hi hj hij hb => ?_, fun g => ?_⟩
  ·rcases hmem a u hu with h5 | ⟨h5, id, hge, h6, h7⟩
   ·exact ⟨(hRH.mem a u h5).1, fun ho => (hRH.mem a u h5).2 (hown' _ ho)⟩
   ·refine ⟨h5, fun ho => ?_⟩
    obtain ⟨j, hj, h8, h9⟩ := hown _ ho
    exact hRH.apart j id h8 h6 (by omega) (by rw [h9]; simp) (by rw [h9, h7])
  ·have hid : id < s.nx := by
    rcases Nat.lt_or_ge id s.nx with h9 | h9
    ·exact h9
    ·have : s2.H id = none := if_neg (by omega)
     rw [this] at ho; cases ho
   rw [(hH id hid).1] at ho
   refine ⟨hid, zd5 (s := s') (s' := s2) (n := s.nx) hm2 (Nat.le_refl _) hH ?_ (hRH.obj id o ho).2⟩
   rcases hlow id o hid ho with h9 | h9
   ·exact zd3 (s := s) (h3.obj id o h9).2
   ·exact h9
  ·have lt : ∀ i, s2.H i ≠ none -> i < s.nx /\ s'.H i ≠ none := fun i hi => by
    rcases Nat.lt_or_ge i s.nx with h9 | h9
    ·exact ⟨h9, by rw [<- (hH i h9).1]; exact hi⟩
    ·exact (hi (if_neg (by omega))).elim
   exact hRH.apart i j (lt i hi).2 (lt j hj).2 hij hb
  ·exact hcut _ _ (z5g _ _ (z3p g)) (hRH.glob g)
theorem zmr {f : FuncId} {ds : List D} {H : HM} {nx k : Nat} {r : D} (hr : pureD r = true)
  (h : AC P f ds H nx fun r' H' _ => (∃ d, z2e P (hiH nx H') k r' = some d /\ Le d r) /\ ∀ id, id < nx -> H' id = H id) : RC P f ds H nx r := by
 have h1 := AC_fin hr h (fun H' O id o hid ho => .inl (by rw [<- O id hid]; exact ho))
 refine ⟨h1.1, fun s w vs e1 e2 e3 e4 => (h1.2 s w vs e1 e2 e3 e4).mono fun e w' ⟨v, r1, s1, he, ⟨hr', hnx, H', O, hcut⟩, hstep, hRH, hrel⟩ => ⟨v, r1, s1, he, ⟨hr', ?_, hnx⟩, hstep, hRH, hrel⟩⟩
 subst e1; subst e2
 rw [hcut]; exact zli e3 O
end Go.Proofs.YtfechgagcgbldaaDoor.Abs
namespace Go.Proofs.YtfechgagcgbldaaDoor.Abs
open Go.RowKit
variable {P : Program}
theorem zvr {st : St} {b : Nat} {e : TypeId} {cs cs' : List D} (hb : st.H b = some (.box e cs)) (hl : LeL cs cs') :
  SealTo P st { st with H := z0u st.H b (some (.box e cs')) } := by
 intro N s a w hf
 have hHb : s.H b = some (.box e cs) := by rw [hf.H]; exact hb
 obtain ⟨_, q2⟩ := hf.heap.obj b _ hHb
 obtain ⟨g3, g4⟩ := z5s (w' := w) hf.heap b _ (.box e cs') (s.κ b) hHb rfl rfl rfl (Nat.le_refl _) (fun _ _ _ => rfl) (.inr ⟨_, rfl, rfl⟩) (fun b hb => .inl hb) (fun hL => by
  obtain ⟨b', vs, u1, u2, u3, u4⟩ := q2
  exact ⟨b', vs, u1, u2, relAll.later hL _ _ (z7t hl u3), u4⟩)
 refine ⟨_, ⟨?_, ?_, hf.size, hf.defers, fun i => rel.later g3.later _ _ (hf.tmps i), g4⟩, g3⟩
 ·simp only [RS.set, hf.H]
 ·simp only [RS.set, hf.nx]
theorem z03 {k nx : Nat} (h : k < nx) : (nx == nx + 1) = false /\ (nx == nx + 2) = false /\ (nx == nx + 3) = false /\ (nx + 1 == nx) = false /\ (nx + 2 == nx) = false /\ (nx + 3 == nx) = false /\ (nx + 1 == nx + 2) = false /\ (nx + 2 == nx + 1) = false /\ (nx + 1 == nx + 3) = false /\ (nx + 3 == nx + 1) = false /\ (nx + 2 == nx + 3) = false /\ (nx + 3 == nx + 2) = false /\
  (k == nx) = false /\ (nx == k) = false /\ (k == nx + 1) = false /\ (nx + 1 == k) = false /\ (k == nx + 2) = false /\ (nx + 2 == k) = false /\ (k == nx + 3) = false /\ (nx + 3 == k) = false := by
 have key : ∀ a b : Nat, ¬ a = b -> (a == b) = false := fun a b h => by simpa using h
 exact ⟨key _ _ (by omega), key _ _ (by omega), key _ _ (by omega), key _ _ (by omega), key _ _ (by omega), key _ _ (by omega), key _ _ (by omega), key _ _ (by omega), key _ _ (by omega), key _ _ (by omega), key _ _ (by omega), key _ _ (by omega), key _ _ (by omega), key _ _ (by omega), key _ _ (by omega), key _ _ (by omega), key _ _ (by omega), key _ _ (by omega), key _ _ (by omega), key _ _ (by omega)⟩
def noBox : HObj -> Bool
 | .box .. => false
 | _ => true
theorem zoj (st : St) {objs : List HObj} (hr : objs.all noBox = true) : z8k st (zhh st.H st.nx objs) (st.nx + objs.length) := by
 refine ⟨Nat.le_add_right _ _, fun id => ⟨fun hlt e cs h => ?_, fun hlt e cs h => ?_⟩⟩
 ·rw [zd2, if_neg (by omega)]; exact h
 ·rw [zd2] at h
  split at h
  ·obtain ⟨hl, he⟩ := List.getElem?_eq_some_iff.1 h
   have := List.all_eq_true.1 hr _ (List.getElem_mem hl)
   rw [he] at this; cases this
  ·exact ⟨by omega, h⟩
theorem z8d {own : List Nat} {objs : List HObj} {r : D} {n : FuncId} {args cap : List D} {g : List Oper -> (St -> Prop) -> St -> Prop} {rest : List Oper} {K : St -> Prop} {st : St} {dst : Option Nat} (h : OC P n (args ++ cap) objs r) (h0 : z06 5000000 own dst = false) (hm : z06 4000000 own dst = true) (hr : objs.all noBox = true)
  (O : g rest K ((st.withH (zhh st.H st.nx objs) (st.nx + objs.length)).put dst (renD (fun j => st.nx + j) r))) (ht : tcM own dst = none := by rfl) (hN : z06 10000000 own dst = false := by rfl) : zv6 P own (.fn n cap) args g rest K st dst :=
 .inr (.inr ⟨h0, hm, _, _, _, h.2.2.2 st.H st.nx, .inl ⟨ht, .inl ⟨hN, zoj st hr⟩⟩, O⟩)
end Go.Proofs.YtfechgagcgbldaaDoor.Abs
namespace Go.Proofs.YtfechgagcgbldaaDoor.Abs
open Go.RowKit
variable {P : Program}
def Sem (P : Program) (N : Nat) (c : Code) (Q : Exit -> St -> Prop) (st : St) : Prop :=
 ∀ s0 w0 s a w, Fr P N st s a w -> Step s0 w0 s w -> c.wp P (zy6 P N s0 w0 Q) a w
theorem Sem.walk {N : Nat} {own : List Nat} {c : Code} {Q : Exit -> St -> Prop} {st : St} (hm : P.follows .mixedOrders = true) (hok : z5a N c = true) (h : awp P own c Q st) : Sem P N c Q st :=
 fun _ _ s a w hf hs => z3i hm c Q st s a w hok h hf hs
theorem Sem.seq {N : Nat} {x y : Code} {Q : Exit -> St -> Prop} {st : St} (h : Sem P N x (zky (fun st => Sem P N y Q st) Q) st) : Sem P N (.seq x y) Q st := by
 intro s0 w0 s a w hf hs
 refine wp_seq (wp_mono (h s0 w0 s a w hf hs) ?_)
 rintro e a' w' ⟨st', s', hq, hf', hs'⟩
 cases e with
 | normal => exact hq s0 w0 s' a' w' hf' hs'
 | exit id => exact ⟨st', s', hq, hf', hs'⟩
 | goto l => exact ⟨st', s', hq, hf', hs'⟩
 | ret => exact ⟨st', s', hq, hf', hs'⟩
 | panic ch => exact ⟨st', s', hq, hf', hs'⟩
 | outgrown => exact ⟨st', s', hq, hf', hs'⟩
theorem Sem.cond {N : Nat} {c : Operand} {x y : Code} {Q : Exit -> St -> Prop} {st : St} (t : Bool) (ht : st.ev c = .bool t) (h1 : t = true -> Sem P N x Q st) (h2 : t = false -> Sem P N y Q st) : Sem P N (.cond c x y) Q st := by
 intro s0 w0 s a w hf hs
 have hv := hf.ev c
 rw [ht] at hv
 simp only [rel] at hv
 exact wp_cond_split hv (fun e => h1 e s0 w0 s a w hf hs) (fun e => h2 e s0 w0 s a w hf hs)
theorem Sem.seal {N : Nat} {c : Code} {Q : Exit -> St -> Prop} {st : St} (st' : St) (hs : SealTo P st st') (h : Sem P N c Q st') : Sem P N c Q st := by
 intro s0 w0 s a w hf hs0
 obtain ⟨s', hf', hs'⟩ := hs N s a w hf
 exact h s0 w0 s' a w hf' (hs0.trans hs')
theorem z9v {f : FuncId} {fn : Func} {c : Code} (hf : P.funcs[f]? = some fn) (hb : fn.body = some c) (hname : (fn.name == "runtime.NumGoroutine") = false)
  {ds : List D} {H : HM} {nx : Nat} {K : D -> HM -> Nat -> Prop} (hds : ds.length <= fn.ntmps) (h : Sem P fn.ntmps c (retQ P fn.results.toList K) (st0 ds H nx)) : AC P f ds H nx K := by
 refine ⟨⟨fn, hf, hname, by rw [hb]; rfl⟩, fun s w vs hH hnx hRH hr => ?_⟩
 have hlen := z01 hr
 refine calls_of_wp hf hb ?_
 have hfr : Fr P fn.ntmps (st0 ds H nx) s { tmps := vs.toArray ++ Array.replicate (fn.ntmps - vs.toArray.size) undef, defers := [] } w := by
  refine ⟨hH, hnx, by simp; omega, rfl, fun i => ?_, hRH⟩
  simp only [st0]
  cases V : ds[i]? with
  | none => simp [rel]
  | some d =>
   obtain ⟨v, hv, hrel⟩ := z1b hr i d V
   have hi : i < vs.length := by
    rcases Nat.lt_or_ge i vs.length with h | h
    ·exact h
    ·rw [List.getElem?_eq_none h] at hv; cases hv
   simp only [Array.getD_eq_getD_getElem?, Option.getD_some]
   rw [Array.getElem?_append_left (by simpa using hi)]
   simp only [List.getElem?_toArray, hv, Option.getD_some]
   exact hrel
 refine wp_mono (h s w s _ w hfr (Step.refl s w)) ?_
 rintro e a' w' ⟨st', s', hq, hf', hs'⟩
 cases e with
 | normal =>
  obtain ⟨r, hr, hK⟩ := hq
  obtain ⟨v, h1, h2⟩ := z4m hf' hr
  exact ⟨hf'.defers, v, h1, v, r, s', rfl, by rw [hf'.H, hf'.nx]; exact hK, hs', hf'.heap, h2⟩
 | ret =>
  obtain ⟨r, hr, hK⟩ := hq
  obtain ⟨v, h1, h2⟩ := z4m hf' hr
  exact ⟨hf'.defers, v, h1, v, r, s', rfl, by rw [hf'.H, hf'.nx]; exact hK, hs', hf'.heap, h2⟩
 | exit id => exact hq.elim
 | goto l => exact hq.elim
 | panic ch => exact hq.elim
 | outgrown => exact hq.elim
section
variable {st : St} {dst : Option Nat} {n : FuncId} {cap args : List D} {g : List Oper -> (St -> Prop) -> St -> Prop} {rest : List Oper} {K : St -> Prop}
end
end Go.Proofs.YtfechgagcgbldaaDoor.Abs
namespace Go.Proofs.YtfechgagcgbldaaDoor.Abs
open Go.RowKit
variable {P : Program}
theorem zc9 {n : Nat} {o : HObj} (h : z5v o = true) : lowO n o = true := by
 cases o with
 | box e cs => exact z1u n cs h
 | row e k cs => exact z1u n cs h
 | map es =>
  simp only [z5v, Bool.and_eq_true] at h
  simp only [lowO, z1u n _ h.1, z1u n _ h.2, Bool.and_self]
 | raw o => rfl
end Go.Proofs.YtfechgagcgbldaaDoor.Abs
namespace Go.Proofs.YtfechgagcgbldaaDoor.Abs
open Go.RowKit
variable {P : Program}
theorem Sem.block {N id : Nat} {c : Code} {Q : Exit -> St -> Prop} {st : St} (h : Sem P N c (zkz id Q) st) : Sem P N (.block id c) Q st := by
 intro s0 w0 s a w hf hs
 refine wp_block (wp_mono (h s0 w0 s a w hf hs) ?_)
 rintro e a' w' ⟨st', s', hq, hf', hs'⟩
 cases e with
 | exit id' =>
  simp only [zkz] at hq
  simp only [Exit.inBlock]
  split
  ·rename_i he; rw [if_pos he] at hq; exact ⟨st', s', hq, hf', hs'⟩
  ·rename_i he; rw [if_neg he] at hq; exact ⟨st', s', hq, hf', hs'⟩
 | normal => exact ⟨st', s', hq, hf', hs'⟩
 | goto l => exact ⟨st', s', hq, hf', hs'⟩
 | ret => exact ⟨st', s', hq, hf', hs'⟩
 | panic ch => exact ⟨st', s', hq, hf', hs'⟩
 | outgrown => exact ⟨st', s', hq, hf', hs'⟩
theorem Sem.mono {N : Nat} {c : Code} {Q Q' : Exit -> St -> Prop} {st : St} (h : Sem P N c Q st) (hq : ∀ e st, Q e st -> Q' e st) : Sem P N c Q' st := fun s0 w0 s a w hf hs =>
 wp_mono (h s0 w0 s a w hf hs) fun _ _ _ ⟨st', s', h1, h2, h3⟩ => ⟨st', s', hq _ _ h1, h2, h3⟩
theorem z8x {N : Nat} {own : List Nat} {ops : Array Oper} {K : St -> Prop} {Q : Exit -> Act -> World -> Prop} {r : List Oper} : ∀ (l : List Oper) (st : St) (s : RS) (a : Act) (w : World),
  (∀ o ∈ l, z31 N o = true) -> z1f P own (zkq ops) l K st -> Fr P N st s a w ->
  (∀ st' s' a' w', K st' -> Fr P N st' s' a' w' -> Step s w s' w' -> wpList P ops Q r a' w') -> wpList P ops Q (l ++ r) a w
 | [], st, s, a, w, _, h, hf, O => O st s a w h hf (Step.refl s w)
 | o :: rest, st, s, a, w, hdst, h, hf, O => by
  have ho := hdst o (by simp)
  have hrest : ∀ o' ∈ rest, z31 N o' = true := fun o' h' => hdst o' (List.mem_cons_of_mem _ h')
  simp only [z1f] at h
  rw [List.cons_append]
  unfold wpList
  rw [zdw] at h
  split at h
  ·rename_i hg
   rw [if_pos (z36 hf hg)]
   exact .inl (zdv hf ho h fun st' s' a' w' hK hf' hstep =>
    z8x rest st' s' a' w' hrest hK hf' fun st2 s2 a2 w2 hK2 hf2 hstep2 => O st2 s2 a2 w2 hK2 hf2 (hstep.trans hstep2))
  ·rename_i hg
   rw [if_neg (by rw [z36 hf hg]; simp)]
   exact z8x rest _ s _ w hrest h (hf.put0 ho zdu) O
  ·cases h
theorem z64 {N : Nat} {ops : Array Oper} {Q : Exit -> Act -> World -> Prop} {rest : List Oper} {o : Oper} {st : St} {s : RS} {a : Act} {w w' : World} {v : Value} (hf : Fr P N st s a w) (hg : o.guard = none)
  (hrun : (execOp a.eval o).run P w = .ok (.value v) w') (O : wpList P ops Q rest (a.put o.dst v) w') : wpList P ops Q (o :: rest) a w := by
 unfold wpList
 rw [if_pos (z36 hf (g := true) (by unfold z67; rw [hg]))]
 refine .inl ?_
 unfold Oper.wp
 rw [hrun, Oper.upon_value]
 exact O
theorem RS.set_self {s : RS} {w : World} {id : Nat} {o o' : HObj} (h : RH P s w) (hid : s.H id = some o) (hle : z60 o = true) (hle' : z60 o' = true) (hok : Later s (s.set id (s.κ id) o') -> objOK P (s.set id (s.κ id) o') w (s.κ id) o') :
  Step s w (s.set id (s.κ id) o') w /\ RH P (s.set id (s.κ id) o') w :=
 z5s h id o o' (s.κ id) hid rfl rfl rfl (Nat.le_refl _) (fun _ _ _ => rfl) (zb9 hle (.inr ⟨o', rfl, hle', rfl⟩)) (fun b hb => .inl hb) hok
def rndK (b1 : Nat) (I : St -> Prop) (Q : Exit -> St -> Prop) : Exit -> St -> Prop
 | .normal, st => I st
 | .exit id, st => id = b1 /\ I st
 | .ret, st => Q .ret st
 | _, _ => False
section
variable {N : Nat} {own : List Nat} {i0 b i1 b1 i4 : Nat} {ops0 ops1 ops4 : Array Oper} {pre : List Oper} {t7 t8 t9 t10 : Nat} {T : TypeId} {x : Operand} {rest4 : List Oper} {body : Code} {Q : Exit -> St -> Prop} {st : St}
def zp2 (st1 : St) (m t7 : Nat) (M J : HObj) : St := (st1.withH (z0u (z0u st1.H m (some M)) st1.nx (some J)) (st1.nx + 1)).put (some t7) (.it st1.nx)
def zp3 (st1 : St) (it t8 t9 t10 : Nat) (J : HObj) (k v : D) : St := (((st1.withH (z0u st1.H it (some J)) st1.nx).put (some t8) (.tup [.bool true, k, v])).put (some t9) (.bool true)).put (some t10) (.tup [k, v])
def zjz (st1 : St) (m t8 t9 : Nat) (es : List (D × D)) : St := ((st1.put (some t8) (.tup [.bool false])).put (some t9) (.bool false)).withH (z0u st1.H m (some (.map es))) st1.nx
def z018 (P : Program) (own : List Nat) (m : Nat) (es : List (D × D)) (t7 t8 t9 t10 b1 : Nat) (gs : List (Option Nat)) (rest4 : List Oper) (body : Code) (Q : Exit -> St -> Prop) (st1 : St) : Prop :=
 ∀ (M : HObj) (J : List Nat -> HObj), ∃ I : List Nat -> St -> Prop,
  (∀ l s, I l s -> s.H m = some M /\ s.H st1.nx = some (J l) /\ s.t t7 = .it st1.nx) /\
  I [] (zp2 st1 m t7 M (J [])) /\
  (∀ l s i k v, I l s -> l.Nodup -> (∀ j ∈ l, j < es.length) -> i ∉ l -> es[i]? = some (k, v) ->
   z1f P own gs rest4 (fun s' => awp P own body (rndK b1 (I (l ++ [i])) Q) s') (zp3 s st1.nx t8 t9 t10 (J (l ++ [i])) k v)) /\
  ∀ l s, I l s -> l.Nodup -> (∀ j ∈ l, j < es.length) -> (∀ i, i < es.length -> i ∈ l) -> Q .normal (zjz s m t8 t9 es)
theorem zp4 {s : RS} {es : List (D × D)} {ens : List MapEntry} (h1 : relAll s (es.map (·.1)) (ens.map (·.key))) (h2 : relAll s (es.map (·.2)) (ens.map (·.val))) :
  es.length = ens.length /\ ∀ (i : Nat) (e : MapEntry), ens[i]? = some e -> ∃ k v, es[i]? = some (k, v) /\ rel s k e.key /\ rel s v e.val := by
 have hl := z01 h1
 simp only [List.length_map] at hl
 refine ⟨hl.symm, fun i e he => ?_⟩
 have hi : i < es.length := by rw [<- hl]; exact (List.getElem?_eq_some_iff.1 he).1
 obtain ⟨u1, g1, g2⟩ := z1b h1 i es[i].1 (by simp [hi])
 obtain ⟨u2, g3, g4⟩ := z1b h2 i es[i].2 (by simp [hi])
 rw [List.getElem?_map, he, Option.map_some, Option.some.injEq] at g1 g3
 subst g1; subst g3
 exact ⟨es[i].1, es[i].2, by rw [List.getElem?_eq_getElem hi], g2, g4⟩
theorem zg1 {gs : List (Option Nat)} {o : Oper} {K : St -> Prop} {st : St} {d : D} {ds : List D} (ho : o.op = .extract (.tmp t8) 0) (hg : o.guard = none) (h : st.t t8 = .tup (d :: ds)) (O : K (st.put o.dst d)) : z1f P own gs [o] K st := by
 unfold z1f za6
 rw [hg]
 simp only [z1f]
 unfold opW
 rw [ho]
 simp only
 unfold opR
 rw [ho]
 simp only [St.ev, h, List.getElem?_cons_zero, St.keep, Option.map_some]
 exact O
theorem z019 (st : St) (i : Nat) (d : D) : (st.put (some i) d).t i = d := by simp [St.put, zt1]
theorem zbd {a : Act} {i : Nat} {v : Value} (h : i < a.tmps.size) : (a.put (some i) v).eval (.tmp i) = v := by
 simp [Act.put, Act.eval, Array.getD_eq_getD_getElem?, h]
theorem z9d {a : Act} {i j : Nat} {v : Value} (h : j ≠ i) : (a.put (some i) v).eval (.tmp j) = a.eval (.tmp j) := by
 simp [Act.put, Act.eval, Array.getD_eq_getD_getElem?, Array.getElem?_setIfInBounds_ne (Ne.symm h)]
theorem Sem.rangeMap (hm0 : P.follows .mixedOrders = true) {o0 o1 o2 o4 : Oper} (e0 : o0.op = .range T x /\ o0.dst = some t7 /\ o0.guard = none) (e1 : o1.op = .next (.tmp t7) false /\ o1.dst = some t8 /\ o1.guard = none)
  (e2 : o2.op = .extract (.tmp t8) 0 /\ o2.dst = some t9 /\ o2.guard = none) (e4 : o4.op = .entry (.tmp t7) /\ o4.dst = some t10 /\ o4.guard = none)
  (h0 : ops0.toList = pre ++ [o0]) (h1 : ops1.toList = [o1, o2]) (h4 : ops4.toList = o4 :: rest4) {kt et : TypeId} (hT : z39 P T = some (kt, et))
  (hN : t7 < N /\ t8 < N /\ t9 < N /\ t10 < N /\ t7 ≠ t8 /\ t7 ≠ t9) (V : ∀ o ∈ pre, z31 N o = true) (hd4 : ∀ o ∈ rest4, z31 N o = true) (hb : z5a N body = true)
  (hpre : z1f P own (zkq ops0) pre (fun st1 => ∃ m es, st1.ev x = .mp m /\ st1.H m = some (.map es) /\ z018 P own m es t7 t8 t9 t10 b1 (zkq ops4) rest4 body Q st1) st) :
  Sem P N (.seq (.region i0 ops0 false) (.block b (.loop (.seq (.region i1 ops1 false) (.seq (.cond (.tmp t9) .skip (.exit b)) (.block b1 (.seq (.region i4 ops4 false) body))))))) Q st := by
 intro s0 w0 s a w hf hs
 obtain ⟨n7, n8, n9, n10, n78, n79⟩ := hN
 have d0 : z31 N o0 = true := by unfold z31; rw [e0.2.1]; simpa using n7
 have d1 : z31 N o1 = true := by unfold z31; rw [e1.2.1]; simpa using n8
 have d2 : z31 N o2 = true := by unfold z31; rw [e2.2.1]; simpa using n9
 have d4 : z31 N o4 = true := by unfold z31; rw [e4.2.1]; simpa using n10
 refine wp_seq (wp_region_list ?_)
 rw [h0]
 refine z8x pre st s a w V hpre hf fun st1 s1 a1 w1 ⟨m, es, hx, hH, hR⟩ hf1 hs1 => ?_
 have hs01 := hs.trans hs1
 have hHs : s1.H m = some (.map es) := by rw [hf1.H]; exact hH
 obtain ⟨hmn, rm, ens, clock, hκ, hheap, hk1, hk2, hst⟩ := hf1.heap.obj m _ hHs
 have hxv := hf1.ev x
 rw [hx] at hxv
 simp only [rel] at hxv
 have hxv := hxv.2.2 _ hHs rfl
 rw [hκ] at hxv
 obtain ⟨hlen, hent⟩ := zp4 hk1 hk2
 obtain ⟨g1, g2⟩ := RS.set_self (o' := .raw (.map ens clock)) hf1.heap hHs rfl rfl (fun _ => ⟨rm, .inr hκ, hheap⟩)
 obtain ⟨g3, g4⟩ := z4c g2 (Grew.alloc w1 (.mapIter (some rm) clock #[] clock)) (.raw (.mapIter (some rm) clock #[] clock)) (.pointer (some ⟨w1.heap.size, 0, none⟩)) (fun b hb => by simp only [blockOf, Option.some.injEq] at hb; omega)
  ⟨w1.heap.size, .inl rfl, by simpa using heap_alloc_new w1 (.mapIter (some rm) clock #[] clock)⟩
 have hrun : (execOp a1.eval o0).run P w1 = .ok (.value (.pointer (some ⟨w1.heap.size, 0, none⟩))) (w1.alloc (.mapIter (some rm) clock #[] clock)) := by
  unfold execOp
  rw [e0.1]
  simp [hxv, run_range_map w1 T kt et rm ens clock (z9c hT) hheap]
 refine z64 hf1 e0.2.2 hrun ?_
 show Exit.then _ _ .normal _ _
 unfold Exit.then
 simp only
 generalize hs3e : (s1.set m (s1.κ m) (.raw (.map ens clock))).add (.pointer (some ⟨w1.heap.size, 0, none⟩)) (.raw (.mapIter (some rm) clock #[] clock)) = s3 at g3 g4
 generalize hw3e : w1.alloc (.mapIter (some rm) clock #[] clock) = w3 at g3 g4
 have hnx3 : s3.nx = st1.nx + 1 := by rw [<- hs3e, <- hf1.nx]; rfl
 have hH3 : s3.H = z0u (z0u st1.H m (some (.raw (.map ens clock)))) st1.nx (some (.raw (.mapIter (some rm) clock #[] clock))) := by
  rw [<- hs3e, <- hf1.nx, <- hf1.H]; rfl
 have hmlt : m ≠ st1.nx := by rw [<- hf1.nx]; omega
 have h3m : s3.H m = some (.raw (.map ens clock)) := by rw [hH3]; simp [z0u, hmlt]
 have h3i : s3.H st1.nx = some (.raw (.mapIter (some rm) clock #[] clock)) := by rw [hH3]; simp [z0u]
 have k3m : s3.κ m = .map (some rm) := by
  rw [<- hs3e]
  simp only [RS.add, RS.set]
  rw [if_neg (by omega)]
  simpa using hκ
 have k3i : s3.κ st1.nx = .pointer (some ⟨w1.heap.size, 0, none⟩) := by
  rw [<- hs3e, <- hf1.nx]
  simp [RS.add, RS.set]
 have hst3 := (g1.trans g3)
 have hf3 : Fr P N (zp2 st1 m t7 (.raw (.map ens clock)) (.raw (.mapIter (some rm) clock #[] clock))) s3 (a1.put o0.dst (.pointer (some ⟨w1.heap.size, 0, none⟩))) w3 := by
  have h := hf1.put hst3.later g4 d0 (d := .it st1.nx) (v := .pointer (some ⟨w1.heap.size, 0, none⟩)) (by
   simp only [rel]
   exact ⟨by rw [hnx3]; omega, ⟨_, rfl⟩, fun _ _ _ => k3i.symm⟩) hH3 hnx3
  rw [e0.2.1] at h
  rw [e0.2.1]
  exact h
 clear hs3e hw3e hrun
 have hs03 := hs01.trans hst3
 obtain ⟨I, hI1, hI2, hI3, hI4⟩ := hR (.raw (.map ens clock)) (fun l => .raw (.mapIter (some rm) clock (l.map fun i => (ens.toList.map (·.born)).getD i 0).toArray clock))
 refine wp_block (zjf (fun n a w => ∃ l st s, I l st /\ Fr P N st s a w /\ Step s0 w0 s w /\ Step s3 w3 s w /\ l.Nodup /\ (∀ j ∈ l, j < es.length) /\ n = ((List.range es.length).filter fun j => !decide (j ∈ l)).length) ?_ _ _ _ ⟨[], _, s3, hI2, hf3, hs03, Step.refl _ _, by simp, by simp, rfl⟩)
 clear hf3
 rintro n a w ⟨l, st, s, hI, hf, hs, hs3, hnd, hlt, rfl⟩
 obtain ⟨q1, q2, q3⟩ := hI1 l st hI
 rw [<- hf.H] at q1 q2
 have keep : ∀ id q q', id < s3.nx -> s3.H id = some q -> z60 q = true -> s.H id = some q' -> s.κ id = s3.κ id := fun id q q' hid h1 h2 h3 => by
  have h := hs3.objs id hid
  rw [h1, h3] at h
  rcases z28 h2 h with h | ⟨_, _, _, h⟩
  ·cases h
  ·exact h
 have km : s.κ m = .map (some rm) := (keep m _ _ (by rw [hnx3]; have := hf1.nx; omega) h3m rfl q1).trans k3m
 have ki : s.κ st1.nx = .pointer (some ⟨w1.heap.size, 0, none⟩) := (keep _ _ _ (by rw [hnx3]; omega) h3i rfl q2).trans k3i
 obtain ⟨_, r1, hr1, hbm⟩ := hf.heap.obj m _ q1
 have er1 : r1 = rm := by
  rw [km] at hr1
  rcases hr1 with hr1 | hr1
  ·cases hr1
  ·cases hr1; rfl
 subst er1
 obtain ⟨_, r2, hr2, hbi⟩ := hf.heap.obj _ _ q2
 have er2 : r2 = w1.heap.size := by
  rw [ki] at hr2
  rcases hr2 with hr2 | hr2
  ·cases hr2; rfl
  ·cases hr2
 subst er2
 have hv7 : a.eval (.tmp t7) = .pointer (some ⟨w1.heap.size, 0, none⟩) := by
  have h := hf.ev (.tmp t7)
  simp only [St.ev, q3, rel] at h
  rw [h.2.2 _ q2 rfl, ki]
 have hseen : ∀ i (hi : i < ens.size), (l.map fun i => (ens.toList.map (·.born)).getD i 0).toArray.contains ens[i].born = decide (i ∈ l) := by
  intro i hi
  rw [Bool.eq_iff_iff, decide_eq_true_eq]
  simp only [List.contains_toArray, List.contains_iff_mem, List.mem_map]
  constructor
  ·rintro ⟨j, hj, he⟩
   have hjl : j < ens.size := by have := hlt j hj; rw [hlen] at this; simpa using this
   have e1 : (ens.toList.map (·.born)).getD j 0 = (ens.toList.map (·.born))[j]'(by simpa using hjl) := by simp [List.getD, hjl]
   have e2 : ens[i].born = (ens.toList.map (·.born))[i]'(by simpa using hi) := by simp
   rw [e1, e2] at he
   have := (List.getElem_inj hst.2).1 he
   rw [<- this]; exact hj
  ·intro h
   exact ⟨i, h, by simp [List.getD, hi]⟩
 refine wp_seq (wp_region_list ?_)
 rw [h1]
 rcases run_next_at (P := P) w o1.type w1.heap.size r1 clock clock (l.map fun i => (ens.toList.map (·.born)).getD i 0).toArray ens clock hbi hbm hst.1 (Nat.le_refl _) with ⟨h0, hrun⟩ | ⟨e, he, w', hw', hrun⟩
 ·-- all are done
  have hrun' : (execOp a.eval o1).run P w = .ok (.value (.tuple #[.bool false])) w := by
   unfold execOp
   rw [e1.1]
   simp [hv7, hrun]
  refine z64 hf e1.2.2 hrun' ?_
  have hf8 := hf.put0 d1 (d := .tup [.bool false]) (v := .tuple #[.bool false]) (by simp only [rel]; exact ⟨[.bool false], rfl, z09 (by simp [rel]) z0h⟩)
  have hp : z1f P own (zkq ops1) [o2] (fun st' => st' = (st.put o1.dst (.tup [.bool false])).put o2.dst (.bool false)) (st.put o1.dst (.tup [.bool false])) :=
   zg1 e2.1 e2.2.2 (by rw [e1.2.1, z019]) rfl
  refine z68 [o2] _ _ _ _ (fun o ho => by rw [List.mem_singleton] at ho; subst ho; exact d2) hp hf8 ?_
  ·intro st' s' a' w' hst' hf' hs'
   subst hst'
   show Exit.then _ _ .normal _ _
   unfold Exit.then
   simp only
   refine wp_seq (wp_cond_split (t := false) ?_ (fun h => by cases h) fun _ => wp_exit ?_)
   ·have h := hf'.ev (.tmp t9)
    rw [e2.2.1] at h
    simpa only [St.ev, z019, rel] using h
   ·show Exit.inBlock b _ (.exit b) _ _
    unfold Exit.inBlock
    simp only [if_true]
    -- the map is a map again
    have hq1 : s'.H m = some (.raw (.map ens clock)) := by rw [hf'.H, zo2, zo2, <- hf.H]; exact q1
    have km' : s'.κ m = .map (some r1) := by
     have h := (hs3.trans hs').objs m (by rw [hnx3]; have := hf1.nx; omega)
     rw [h3m, hq1] at h
     rcases z28 rfl h with h | ⟨_, _, _, h⟩
     ·cases h
     ·rw [h, k3m]
    obtain ⟨_, r3, hr3, hbm3⟩ := hf'.heap.obj m _ hq1
    have er3 : r3 = r1 := by
     rw [km'] at hr3
     rcases hr3 with hr3 | hr3
     ·cases hr3
     ·cases hr3; rfl
    subst er3
    have hl := ((g1.trans g3).trans (hs3.trans hs')).later
    obtain ⟨u1, u2⟩ := RS.set_self (o' := .map es) hf'.heap hq1 rfl rfl (fun hl2 => ⟨r3, ens, clock, km', hbm3, relAll.later hl2 _ _ (relAll.later hl _ _ hk1), relAll.later hl2 _ _ (relAll.later hl _ _ hk2), hst⟩)
    refine ⟨zjz st m t8 t9 es, _, hI4 l st hI hnd hlt (fun i hi => ?_), ⟨?_, ?_, hf'.size, hf'.defers, fun i => rel.later u1.later _ _ ?_, u2⟩, (hs.trans hs').trans u1⟩
    ·have hi' : i < ens.size := by rw [hlen] at hi; simpa using hi
     have h2 := all_seen ens _ h0 ens[i] (by simp)
     rw [hseen i hi'] at h2
     simpa using h2
    ·rw [show (zjz st m t8 t9 es).H = z0u st.H m (some (.map es)) from rfl]
     rw [show (s'.set m (s'.κ m) (.map es)).H = z0u s'.H m (some (.map es)) from rfl, hf'.H, zo2, zo2]
    ·rw [show (zjz st m t8 t9 es).nx = st.nx from rfl]
     rw [show (s'.set m (s'.κ m) (.map es)).nx = s'.nx from rfl, hf'.nx, zm7, zm7]
    ·have h := hf'.tmps i
     rw [e1.2.1, e2.2.1] at h
     exact h
 ·-- one more
  obtain ⟨hem, hes⟩ := mem_left he
  obtain ⟨i, hi, hie⟩ := List.getElem_of_mem hem
  have hi' : i < ens.size := by simpa using hi
  have hie' : ens[i] = e := by simpa using hie
  have hil : i ∉ l := by
   have h := hseen i hi'
   rw [hie', hes] at h
   simpa using h.symm
  obtain ⟨k, v, hkv, rk, rv⟩ := hent i e (by rw [List.getElem?_eq_getElem hi, hie])
  have hl := ((g1.trans g3).trans hs3).later
  have rk := rel.later hl _ _ rk
  have rv := rel.later hl _ _ rv
  have hw1 : Step s w s w' /\ RH P s w' /\ w'.heap = w.heap := by
   rcases hw' with rfl | rfl
   ·exact ⟨Step.refl _ _, hf.heap, rfl⟩
   ·obtain ⟨x1, x2⟩ := z6k (w' := w.drew) hf.heap rfl rfl rfl rfl
    exact ⟨x1, x2, rfl⟩
  obtain ⟨x1, x2, x3⟩ := hw1
  have hbi' : w'.heap[w1.heap.size]? = some (.mapIter (some r1) clock (l.map fun i => (ens.toList.map (·.born)).getD i 0).toArray clock) := by rw [x3]; exact hbi
  have hset0 := MapKept.heap_set (o' := .mapIter (some r1) clock ((l.map fun i => (ens.toList.map (·.born)).getD i 0).toArray.push e.born) clock) hbi'
  have hset : (ChangeMaps.setBlock w' w1.heap.size (.mapIter (some r1) clock ((l.map fun i => (ens.toList.map (·.born)).getD i 0).toArray.push e.born) clock)).heap[w1.heap.size]? = some (.mapIter (some r1) clock ((l.map fun i => (ens.toList.map (·.born)).getD i 0).toArray.push e.born) clock) /\ ∀ q, q ≠ w1.heap.size -> (ChangeMaps.setBlock w' w1.heap.size (.mapIter (some r1) clock ((l.map fun i => (ens.toList.map (·.born)).getD i 0).toArray.push e.born) clock)).heap[q]? = w'.heap[q]? := hset0
  clear hset0
  have hpush : (l.map fun i => (ens.toList.map (·.born)).getD i 0).toArray.push e.born = ((l ++ [i]).map fun i => (ens.toList.map (·.born)).getD i 0).toArray := by
   rw [List.map_append, List.map_cons, List.map_nil, List.push_toArray]
   congr 2
   rw [<- hie']
   simp [List.getD, hi']
  have hri : w1.heap.size ≠ r1 := fun e => by rw [e, hbm] at hbi; cases hbi
  obtain ⟨u1, u2⟩ := z5s (w' := ChangeMaps.setBlock w' w1.heap.size (.mapIter (some r1) clock ((l.map fun i => (ens.toList.map (·.born)).getD i 0).toArray.push e.born) clock)) x2 st1.nx (.raw (.mapIter (some r1) clock (l.map fun i => (ens.toList.map (·.born)).getD i 0).toArray clock)) (.raw (.mapIter (some r1) clock ((l ++ [i]).map fun i => (ens.toList.map (·.born)).getD i 0).toArray clock)) (s.κ st1.nx) q2 rfl rfl rfl (by simp [ChangeMaps.setBlock])
   (fun q hq hne => hset.2 q (fun e => hne (by rw [ki, e]; rfl))) (.inr ⟨_, rfl, rfl, rfl⟩) (fun b hb => .inl hb) (fun _ => ⟨w1.heap.size, .inl ki, by rw [<- hpush]; exact hset.1⟩)
  have hrun' : (execOp a.eval o1).run P w = .ok (.value (.tuple #[.bool true, e.key, e.val])) (ChangeMaps.setBlock w' w1.heap.size (.mapIter (some r1) clock ((l.map fun i => (ens.toList.map (·.born)).getD i 0).toArray.push e.born) clock)) := by
   unfold execOp
   rw [e1.1]
   simp [hv7, hrun]
  refine z64 hf e1.2.2 hrun' ?_
  have hbm4 : (ChangeMaps.setBlock w' w1.heap.size (.mapIter (some r1) clock ((l.map fun i => (ens.toList.map (·.born)).getD i 0).toArray.push e.born) clock)).heap[r1]? = some (.map ens clock) := by
   rw [hset.2 r1 (fun e => hri e.symm), x3]; exact hbm
  have hbi4 := hset.1
  generalize ChangeMaps.setBlock w' w1.heap.size (.mapIter (some r1) clock ((l.map fun i => (ens.toList.map (·.born)).getD i 0).toArray.push e.born) clock) = w4 at u1 u2 hbm4 hbi4
  have hx4 := x1.trans u1
  have hf8 := hf.put hx4.later u2 d1 (d := .tup [.bool true, k, v]) (v := .tuple #[.bool true, e.key, e.val]) (by
   simp only [rel]
   exact ⟨[.bool true, e.key, e.val], rfl, z09 (by simp [rel]) (z09 (rel.later hx4.later _ _ rk) (z09 (rel.later hx4.later _ _ rv) z0h))⟩) (H := z0u st.H st1.nx (some (.raw (.mapIter (some r1) clock ((l ++ [i]).map fun i => (ens.toList.map (·.born)).getD i 0).toArray clock)))) (nx := st.nx) (by rw [<- hf.H]; rfl) (by rw [<- hf.nx]; rfl)
  have hev8 : (a.put o1.dst (.tuple #[.bool true, e.key, e.val])).eval (.tmp t8) = .tuple #[.bool true, e.key, e.val] := by
   rw [e1.2.1]
   exact zbd (by rw [hf.size]; exact n8)
  have hrun2 : (execOp (a.put o1.dst (.tuple #[.bool true, e.key, e.val])).eval o2).run P w4 = .ok (.value (.bool true)) w4 := by
   unfold execOp
   rw [e2.1]
   simp [hev8, Instr.extract]
  refine z64 hf8 e2.2.2 hrun2 ?_
  have hf9 := hf8.put0 d2 (d := .bool true) (v := .bool true) (by simp [rel])
  show Exit.then _ _ .normal _ _
  unfold Exit.then
  simp only
  refine wp_seq (wp_cond_split (t := true) ?_ (fun _ => wp_skip ?_) fun h => by cases h)
  ·rw [e2.2.1]
   exact zbd (by have h := hf8.size; rw [h]; exact n9)
  show Exit.then _ _ .normal _ _
  unfold Exit.then
  simp only
  refine wp_block (wp_seq (wp_region_list ?_))
  rw [h4]
  have hev7 : ((a.put o1.dst (.tuple #[.bool true, e.key, e.val])).put o2.dst (.bool true)).eval (.tmp t7) = .pointer (some ⟨w1.heap.size, 0, none⟩) := by
   rw [e1.2.1, e2.2.1, z9d n79, z9d n78]
   exact hv7
  have hrun4 : (execOp ((a.put o1.dst (.tuple #[.bool true, e.key, e.val])).put o2.dst (.bool true)).eval o4).run P w4 = .ok (.value (.tuple #[e.key, e.val])) w4 := by
   unfold execOp
   rw [e4.1]
   simp [hev7, run_entry_at (P := P) w4 w1.heap.size r1 clock (l.map fun i => (ens.toList.map (·.born)).getD i 0).toArray ens clock e hbi4 hbm4 hem hst.2]
  refine z64 hf9 e4.2.2 hrun4 ?_
  have hf10 := hf9.put0 d4 (d := .tup [k, v]) (v := .tuple #[e.key, e.val]) (by
   simp only [rel]
   exact ⟨[e.key, e.val], rfl, z09 (rel.later hx4.later _ _ rk) (z09 (rel.later hx4.later _ _ rv) z0h)⟩)
  have hst10 : ((((st.withH (z0u st.H st1.nx (some (.raw (.mapIter (some r1) clock ((l ++ [i]).map fun i => (ens.toList.map (·.born)).getD i 0).toArray clock)))) st.nx).put o1.dst (.tup [.bool true, k, v])).put o2.dst (.bool true)).put o4.dst (.tup [k, v])) = zp3 st st1.nx t8 t9 t10 (.raw (.mapIter (some r1) clock ((l ++ [i]).map fun i => (ens.toList.map (·.born)).getD i 0).toArray clock)) k v := by
   rw [e1.2.1, e2.2.1, e4.2.1]; rfl
  have hbody := hI3 l st i k v hI hnd hlt hil hkv
  rw [<- hst10] at hbody
  have hil2 : i < es.length := by rw [hlen]; exact hi
  refine z68 rest4 _ _ _ _ hd4 hbody hf10 ?_
  intro st' s' a' w5 hst' hf' hs'
  show Exit.then _ _ .normal _ _
  unfold Exit.then
  simp only
  refine wp_mono (z3i hm0 body _ st' s' a' w5 hb hst' hf' ((hs3.trans hx4).trans hs')) ?_
  rintro ex a6 w6 ⟨st6, s6, hq, hf6, hs6⟩
  have done : I (l ++ [i]) st6 -> ∃ m_1, m_1 < ((List.range es.length).filter fun j => !decide (j ∈ l)).length /\ ∃ l st s, I l st /\ Fr P N st s a6 w6 /\ Step s0 w0 s w6 /\ Step s3 w3 s w6 /\ l.Nodup /\ (∀ j ∈ l, j < es.length) /\ m_1 = ((List.range es.length).filter fun j => !decide (j ∈ l)).length := by
   intro hI6
   refine ⟨_, ?_, l ++ [i], st6, s6, hI6, hf6, hs03.trans hs6, hs6, ?_, ?_, rfl⟩
   ·refine filter_lt (fun j => !decide (j ∈ l)) (fun j => !decide (j ∈ l ++ [i])) (fun j hj => ?_) i (by simp [hil]) (by simp) (List.range es.length) (List.mem_range.2 hil2)
    simp only [Bool.not_eq_true', decide_eq_false_iff_not, List.mem_append, not_or] at hj ⊢
    exact hj.1
   ·rw [List.nodup_append]
    exact ⟨hnd, by simp, fun a ha b hb e => by rw [List.mem_singleton] at hb; subst hb; subst e; exact hil ha⟩
   ·intro j hj
    rcases List.mem_append.1 hj with hj | hj
    ·exact hlt j hj
    ·rw [List.mem_singleton] at hj; subst hj; exact hil2
  cases ex with
  | normal => exact done hq
  | exit id =>
   obtain ⟨rfl, hq⟩ := hq
   show Exit.inBlock id _ (.exit id) _ _
   unfold Exit.inBlock
   simp only [if_true]
   exact done hq
  | ret => exact ⟨st6, s6, hq, hf6, hs03.trans hs6⟩
  | goto l => exact hq.elim
  | panic ch => exact hq.elim
  | outgrown => exact hq.elim
end
end Go.Proofs.YtfechgagcgbldaaDoor.Abs
namespace Go.Proofs.YtfechgagcgbldaaDoor.Abs
open Go.RowKit
variable {P : Program}
inductive OT where
 | run (l : List Nat)
 | fork (l : List Nat) (a b : OT)
def OT.pre (l : List Nat) : OT -> OT
 | .run m => .run (l ++ m)
 | .fork m a b => .fork (l ++ m) a b
def OT.isDone : OT -> Bool
 | .run [] => true
 | _ => false
def zbw (P : Program) (own : List Nat) (ops : Array Oper) (K : St -> Prop) : OT -> St -> Prop
 | .run l, st => z5e P own ops K l st
 | .fork l a b, st => z5e P own ops (fun st => zbw P own ops K a st /\ zbw P own ops K b st) l st
def zsw (cm : Nat -> Nat -> Bool) (i : Nat) : List Nat -> Option (List Nat)
 | [] => none
 | j :: l => if j == i then some l else if cm j i then (zsw cm i l).map (j :: ·) else none
def zol (cm : Nat -> Nat -> Bool) (i : Nat) : OT -> Option OT
 | .run l => (zsw cm i l).map .run
 | .fork l a b => if l.contains i then (zsw cm i l).map fun m => .fork m a b else
   if l.all (fun j => cm j i) then (match zol cm i a, zol cm i b with
    | some t, none => some (t.pre l)
    | none, some t => some (t.pre l)
    | _, _ => none) else none
def zjn (cm : Nat -> Nat -> Bool) (ops : Array Oper) : Nat -> Array Bool -> OT -> Bool
 | 0, listed, t => (Region.ready .any ops listed).isEmpty && t.isDone
 | n + 1, listed, t => if (Region.ready .any ops listed).isEmpty then t.isDone else (Region.ready .any ops listed).all fun i => match zol cm i t with
  | some t' => decide (i < ops.size) && zjn cm ops n (listed.setIfInBounds i true) t'
  | none => false
section
variable {own : List Nat} {ops : Array Oper} {K : St -> Prop} {cm : Nat -> Nat -> Bool}
theorem zb8 {i : Nat} : ∀ {l m : List Nat}, zsw cm i l = some m -> ∃ r1 r2, l = r1 ++ i :: r2 /\ m = r1 ++ r2 /\ ∀ j ∈ r1, cm j i = true
 | [], m, h => by cases h
 | j :: l, m, h => by
  unfold zsw at h
  split at h
  ·rename_i he
   rw [beq_iff_eq] at he
   subst he
   cases h
   exact ⟨[], l, rfl, rfl, fun j hj => by cases hj⟩
  ·split at h
   ·rename_i hc
    simp only [Option.map_eq_some_iff] at h
    obtain ⟨m', hm, rfl⟩ := h
    obtain ⟨r1, r2, rfl, rfl, h3⟩ := zb8 hm
    refine ⟨j :: r1, r2, rfl, rfl, fun k O => ?_⟩
    rcases List.mem_cons.1 O with rfl | O
    ·exact hc
    ·exact h3 k O
   ·cases h
theorem zvs (l : List Nat) (t : OT) (st : St) : zbw P own ops K (t.pre l) st = z5e P own ops (zbw P own ops K t) l st := by
 cases t with
 | run m => unfold OT.pre; unfold zbw; rw [z2d]; congr 1
 | fork m a b => unfold OT.pre; unfold zbw; rw [z2d]; congr 1
def zbx (P : Program) (own : List Nat) (ops : Array Oper) (x y : Oper) : Prop := ∀ (st : St) (dx dy : D) (H1 H2 : HM) (n1 n2 : Nat), z0i P own ops x st dx H1 n1 -> z0i P own ops y (st.next x dx H1 n1) dy H2 n2 ->
  ∃ H3 n3, z0i P own ops y st dy H3 n3 /\ z0i P own ops x (st.next y dy H3 n3) dx H2 n2 /\ (st.next x dx H1 n1).next y dy H2 n2 = (st.next y dy H3 n3).next x dx H2 n2
def isMk (o : Oper) : Bool := match o.op with
 | .makeMap _ none => true
 | _ => false
def zvt (own : List Nat) (ops : Array Oper) (x y : Oper) : Bool := x.apart ops y && ((z6a own x && isMk y) || (isMk x && z6a own y))
theorem zmq {x : Oper} {st : St} {d : D} {H : HM} {nx : Nat} (O : isMk x = true) (h : z0i P own ops x st d H nx) : z8k st H nx := by
 unfold isMk at O
 split at O
 ·rename_i t hop
  unfold z0i at h
  rcases h with ⟨hg, ⟨f, args, tys, g, cap, hop2, _⟩ | hs⟩ | ⟨hg, h1, h2, h3⟩
  ·rw [hop] at hop2; cases hop2
  ·have h0 := hs.1
   unfold opR at h0
   simp only [hop, Option.map_eq_some_iff, Prod.mk.injEq] at h0
   obtain ⟨_, _, _, rfl, rfl⟩ := h0
   exact ze0 st (by intro e cs h; cases h)
  ·subst h2; subst h3; exact z3w st
 ·cases O
theorem zsx {x y : Oper} (hp : zvt own ops x y = true) : zbx P own ops x y := by
 intro st dx dy H1 H2 n1 n2 hx hy
 simp only [zvt, Bool.and_eq_true, Bool.or_eq_true] at hp
 obtain ⟨hap, hc⟩ := hp
 obtain ⟨ha1, ha2, ha3⟩ := Oper.apart_spec hap
 have ty : ∀ t ∈ y.looksAt ops, (st.next x dx H1 n1).t t = st.t t := fun t ht => z89 (fun e => ha1 t e ht)
 have tx : ∀ H n t, t ∈ x.looksAt ops -> st.t t = (st.next y dy H n).t t := fun H n t ht => (z89 (fun e => ha3 t e ht)).symm
 have hcomm := fun H3 n3 => zj6 (st := st) (x := x) (y := y) (dx := dx) (dy := dy) (H1 := H1) (H2 := H3) (H3 := H2) (n1 := n1) (n2 := n3) (n3 := n2) ha2
 rcases hc with ⟨hl, O⟩ | ⟨O, hl⟩
 ·obtain ⟨rfl, rfl⟩ := z27 (by rw [z6b hl]; omega) hx
  have hy' : z0i P own ops y st dy H2 n2 := z0a ty (z1m ..) (z0z ..) hy
  have hs := zmq O hy'
  refine ⟨H2, n2, hy', ?_, hcomm _ _⟩
  exact z0a (st := st.withH H2 n2) (fun t ht => tx _ _ t ht) (z1m ..).symm (z0z ..).symm ((z5m hl hs).1 hx)
 ·have hs := zmq O hx
  obtain ⟨h1, h2⟩ := z27 (by rw [z6b hl]; omega) hy
  rw [z1m] at h1; rw [z0z] at h2
  subst h1; subst h2
  have hy' : z0i P own ops y (st.withH H2 n2) dy H2 n2 := z0a ty (z1m ..) (z0z ..) hy
  refine ⟨st.H, st.nx, (z5m hl hs).2 hy', ?_, hcomm _ _⟩
  exact z0a (fun t ht => tx _ _ t ht) (z1m ..).symm (z0z ..).symm hx
theorem zjo {i : Nat} {oi : Oper} (hi : ops[i]? = some oi) : ∀ (r1 r2 : List Nat) (st : St),
  (∀ j ∈ r1, ∀ oj, ops[j]? = some oj -> zbx P own ops oj oi) -> z5e P own ops K (r1 ++ i :: r2) st -> z5e P own ops K (i :: (r1 ++ r2)) st
 | [], r2, st, _, h => h
 | j :: r1, r2, st, hp, h => by
  simp only [List.cons_append, z5e] at h
  obtain ⟨oj, dj, Hj, nj, hoj, hsj, h⟩ := h
  have h' := zjo hi r1 r2 _ (fun k O => hp k (List.mem_cons_of_mem _ O)) h
  simp only [z5e] at h'
  obtain ⟨o', di, Hi, ni, hoi, hsi, h'⟩ := h'
  rw [hi] at hoi
  cases hoi
  obtain ⟨H3, n3, h1, h2, h3⟩ := hp j (by simp) oj hoj _ _ _ _ _ _ _ hsj hsi
  simp only [List.cons_append, z5e]
  exact ⟨oi, di, H3, n3, hi, h1, oj, dj, Hi, ni, hoj, h2, by rw [<- h3]; exact h'⟩
theorem pullKS {K1 K2 : St -> Prop} {i : Nat} {oi : Oper} (hi : ops[i]? = some oi) (r : List Nat) (st : St)
  (hp : ∀ j ∈ r, ∀ oj, ops[j]? = some oj -> zbx P own ops oj oi) (O : ∀ st, K1 st -> z5e P own ops K2 [i] st) (h : z5e P own ops K1 r st) : z5e P own ops K2 (i :: r) st := by
 have h1 := z47 O r st h
 rw [<- z2d] at h1
 have := zjo hi r [] st hp h1
 rwa [List.append_nil] at this
theorem z97 (hcm : ∀ j i oj oi, cm j i = true -> ops[j]? = some oj -> ops[i]? = some oi -> zbx P own ops oj oi) {i : Nat} {oi : Oper} (hi : ops[i]? = some oi) :
  ∀ (t t' : OT) (st : St), zol cm i t = some t' -> zbw P own ops K t st -> z5e P own ops (zbw P own ops K t') [i] st
 | .run l, t', st, h, hr => by
  simp only [zol, Option.map_eq_some_iff] at h
  obtain ⟨m, hm, rfl⟩ := h
  obtain ⟨r1, r2, rfl, rfl, h3⟩ := zb8 hm
  exact zjo hi r1 r2 st (fun j hj oj hoj => hcm j i oj oi (h3 j hj) hoj hi) hr
 | .fork l a b, t', st, h, hr => by
  unfold zol at h
  split at h
  ·simp only [Option.map_eq_some_iff] at h
   obtain ⟨m, hm, rfl⟩ := h
   obtain ⟨r1, r2, rfl, rfl, h3⟩ := zb8 hm
   exact zjo hi r1 r2 st (fun j hj oj hoj => hcm j i oj oi (h3 j hj) hoj hi) hr
  ·split at h
   ·rename_i hall
    have hp : ∀ j ∈ l, ∀ oj, ops[j]? = some oj -> zbx P own ops oj oi := fun j hj oj hoj => hcm j i oj oi (List.all_eq_true.1 hall j hj) hoj hi
    have go : ∀ t : OT, (∀ st, (zbw P own ops K a st /\ zbw P own ops K b st) -> z5e P own ops (zbw P own ops K t) [i] st) -> z5e P own ops (zbw P own ops K (t.pre l)) [i] st := by
     intro t ht
     have h1 := pullKS hi l st hp ht hr
     have e : zbw P own ops K (t.pre l) = z5e P own ops (zbw P own ops K t) l := funext fun st => zvs l t st
     rw [e]
     exact h1
    split at h
    ·rename_i t h1 h2
     cases h
     exact go t fun st hh => z97 hcm hi a t st h1 hh.1
    ·rename_i t h1 h2
     cases h
     exact go t fun st hh => z97 hcm hi b t st h2 hh.2
    ·cases h
   ·cases h
theorem zvu {N : Nat} {Q : Exit -> Act -> World -> Prop} (hcm : ∀ j i oj oi, cm j i = true -> ops[j]? = some oj -> ops[i]? = some oi -> zbx P own ops oj oi) (hdst : ∀ (i : Nat) o, ops[i]? = some o -> z31 N o = true) :
  ∀ (fuel : Nat) (listed : Array Bool) (t : OT) (st : St) (s : RS) (a : Act) (w : World), zjn cm ops fuel listed t = true -> zbw P own ops K t st -> Fr P N st s a w ->
  (∀ st' s' a' w', K st' -> Fr P N st' s' a' w' -> Step s w s' w' -> Q .normal a' w') -> wpAny P .any ops Q fuel listed a w := by
 have hend : ∀ (t : OT) (st : St), t.isDone = true -> zbw P own ops K t st -> K st := fun t st h hr => by
  cases t with
  | run l => cases l with
   | nil => exact hr
   | cons i l => cases h
  | fork l a b => cases h
 intro fuel
 induction fuel with
 | zero =>
  intro listed t st s a w hc hr hf O
  simp only [zjn, Bool.and_eq_true, List.isEmpty_iff] at hc
  exact ⟨hc.1, O st s a w (hend t st hc.2 hr) hf (Step.refl s w)⟩
 | succ fuel ih =>
  intro listed t st s a w hc hr hf O
  unfold zjn at hc
  refine ⟨fun h0 => ?_, fun i hi => ?_⟩
  ·rw [if_pos (by rw [h0]; rfl)] at hc
   exact O st s a w (hend t st hc hr) hf (Step.refl s w)
  ·rw [if_neg (by intro e; rw [List.isEmpty_iff] at e; rw [e] at hi; cases hi)] at hc
   have h1 := List.all_eq_true.1 hc i hi
   split at h1
   ·rename_i t' ht
    simp only [Bool.and_eq_true, decide_eq_true_eq] at h1
    have hoi := Array.getElem?_eq_getElem h1.1
    obtain ⟨o, d, H, nx, ho, hstep, hrest⟩ := z97 hcm hoi t t' st ht hr
    exact z42 ho (hdst i o ho) hf hstep fun s' a' w' hf' hs' => ih _ t' _ s' a' w' h1.2 hrest hf' fun st2 s2 a2 w2 hK2 hf2 hs2 => O st2 s2 a2 w2 hK2 hf2 (hs'.trans hs2)
   ·cases h1
def cmL (cs : List (Nat × Nat)) (j i : Nat) : Bool := cs.any fun p => p.1 == j && p.2 == i
def cmOK (own : List Nat) (ops : Array Oper) (cs : List (Nat × Nat)) : Bool := cs.all fun p => match ops[p.1]?, ops[p.2]? with
 | some x, some y => z8t own ops x y || zvt own ops x y
 | _, _ => true
theorem cm_ok {cs : List (Nat × Nat)} (h : cmOK own ops cs = true) : ∀ j i oj oi, cmL cs j i = true -> ops[j]? = some oj -> ops[i]? = some oi -> zbx P own ops oj oi := by
 intro j i oj oi hc hj hi
 obtain ⟨p, hp, hpe⟩ := List.any_eq_true.1 hc
 simp only [Bool.and_eq_true, beq_iff_eq] at hpe
 have h1 := List.all_eq_true.1 h p hp
 rw [hpe.1, hpe.2, hj, hi] at h1
 simp only [Bool.or_eq_true] at h1
 rcases h1 with h1 | h1
 ·exact fun st dx dy H1 H2 n1 n2 hx hy => swap h1 hx hy
 ·exact zsx h1
theorem zvv {N id : Nat} {Q : Exit -> St -> Prop} {st : St} (hm : P.follows .mixedOrders = true) (hdst : ∀ o ∈ ops.toList, z31 N o = true) (cs : List (Nat × Nat)) (t : OT) (hcs : cmOK own ops cs = true)
  (hcov : zjn (cmL cs) ops ops.size (Array.replicate ops.size false) t = true) (h : zbw P own ops (Q .normal) t st) : Sem P N (.region id ops true) Q st := by
 intro s0 w0 s a w hf hs
 obtain ⟨hds, hdr⟩ := z6k (w' := { w with drawn := w.drawn + 1 }) hf.heap rfl rfl rfl rfl
 have hf' : Fr P N st s a { w with drawn := w.drawn + 1 } := ⟨hf.H, hf.nx, hf.size, hf.defers, hf.tmps, hdr⟩
 have hdst2 : ∀ (i : Nat) o, ops[i]? = some o -> z31 N o = true := fun i o ho => hdst o (by
  obtain ⟨h1, h2⟩ := (Array.getElem?_eq_some_iff.1 ho)
  rw [<- h2]; exact (Array.mem_toList_iff.2 (Array.getElem_mem h1)))
 exact wp_region_any hm (zvu (Q := zy6 P N s0 w0 Q) (cm_ok hcs) hdst2 ops.size _ t st s a _ hcov h hf' fun st' s' a' w' hK hf2 hs2 => ⟨st', s', hK, hf2, hs.trans (hds.trans hs2)⟩)
theorem zvw {l : List Nat} {os : List Oper} {st : St} (hl : l.map (fun k => ops[k]?) = os.map some) (h : z2n P own (zkq ops) os K st) : zbw P own ops K (.run l) st := z59 os l st hl h
theorem zsy {l : List Nat} {os : List Oper} {a b : OT} {st : St} (hl : l.map (fun k => ops[k]?) = os.map some) (h : z2n P own (zkq ops) os (fun st => zbw P own ops K a st /\ zbw P own ops K b st) st) : zbw P own ops K (.fork l a b) st := z59 os l st hl h
end
end Go.Proofs.YtfechgagcgbldaaDoor.Abs
namespace Go.Proofs.YtfechgagcgbldaaDoor
open _root_.Go.Proofs.Tryd
section
open Abs Facts Tr
theorem z1o {a b : Nat} (h : ¬ a = b) : (a == b) = false := by simpa using h
theorem z26 {H : HM} {i j : Nat} (o : Option HObj) (h : ¬ j = i) : z0u H i o j = H j := if_neg h
section
variable {β : Type}
def z6r (enc : β -> D) : List (Idv × β) -> Idv -> D
 | [], _ => .any
 | p :: l, i => if i ∈ l.map (·.1) then z6r enc l i else if p.1 = i then enc p.2 else .any
def mapI (enc : β -> D) (l : List (Idv × β)) : List (D × D) := (z15 (l.map (·.1))).map fun i => (z6e i, z6r enc l i)
theorem z82 (enc : β -> D) (k : Idv) (v : β) (i : Idv) : ∀ l : List (Idv × β), z6r enc (l ++ [(k, v)]) i = if i = k then enc v else z6r enc l i
 | [] => by
  simp only [List.nil_append, z6r, List.map_nil, List.not_mem_nil, if_false]
  by_cases h : i = k
  ·rw [if_pos h, if_pos h.symm]
  ·rw [if_neg h, if_neg fun e => h e.symm]
 | p :: l => by
  rw [List.cons_append, z6r, z82 enc k v i l, z6r]
  by_cases h : i = k
  ·simp [h]
  ·by_cases h2 : i ∈ l.map (·.1)
   ·have h3 : i ∈ (l ++ [(k, v)]).map (·.1) := by rw [List.map_append, List.mem_append]; exact .inl h2
    rw [if_pos h3, if_neg h, if_neg h, if_pos h2]
   ·have h3 : i ∉ (l ++ [(k, v)]).map (·.1) := by
     rw [List.map_append, List.mem_append]
     rintro (h3 | h3)
     ·exact h2 h3
     ·simp at h3; exact h h3
    rw [if_neg h3, if_neg h, if_neg h2]
theorem z9p {enc : β -> D} {k : Idv} {v : β} : ∀ {l : List (Idv × β)}, (l.map (·.1)).Nodup -> (k, v) ∈ l -> z6r enc l k = enc v
 | [], _, h => by cases h
 | p :: l, hn, h => by
  rw [List.map_cons, List.nodup_cons] at hn
  rw [z6r]
  rcases List.mem_cons.1 h with e | h
  ·subst e; rw [if_neg hn.1, if_pos rfl]
  ·rw [if_pos (List.mem_map.2 ⟨_, h, rfl⟩), z9p hn.2 h]
theorem zcb (enc : β -> D) (l : List (Idv × β)) (k : Idv) : z2y prog 23 (z6e k) (mapI enc l) = some (if k ∈ l.map (·.1) then some ((z15 (l.map (·.1))).idxOf k, z6r enc l k) else none) := by
 have h := z6h z6e zx1 (z6r enc l) k (z15 (l.map (·.1)))
 rw [mapI, h]
 by_cases O : k ∈ l.map (·.1)
 ·rw [if_pos O, if_pos (((z2w _).2.1 k).2 O)]
 ·rw [if_neg O, if_neg fun h2 => O (((z2w _).2.1 k).1 h2)]
theorem zcc (enc : β -> D) (l : List (Idv × β)) : (mapI enc l).length = (z15 (l.map (·.1))).length := by rw [mapI, List.length_map]
theorem zu5 (enc : β -> D) (l : List (Idv × β)) (k : Idv) (v : β) : zow (mapI enc l) (z6e k) (enc v) (z2y prog 23 (z6e k) (mapI enc l)) = some (.map (mapI enc (l ++ [(k, v)]))) := by
 have h := z6h z6e zx1 (z6r enc l) k (z15 (l.map (·.1)))
 rw [mapI, h]
 unfold mapI
 rw [List.map_append, List.map_cons, List.map_nil, z8e]
 by_cases O : k ∈ z15 (l.map (·.1))
 ·rw [if_pos O, if_pos O]
  simp only [zow, Option.some.injEq, HObj.map.injEq]
  rw [z3u z6e (z6r enc l) k (enc v) _ (z2w _).1 O]
  exact List.map_congr_left fun i _ => by rw [z82]
 ·rw [if_neg O, if_neg O]
  simp only [zow, Option.some.injEq, HObj.map.injEq]
  rw [List.map_append, List.map_cons, List.map_nil, z82, if_pos rfl]
  congr 1
  refine List.map_congr_left fun i hi => ?_
  have hik : ¬ i = k := fun e => O (by rw [<- e]; exact hi)
  rw [z82, if_neg hik]
theorem zez (enc : β -> D) (l : List (Idv × β)) (k : Idv) (v : β) :
  (k ∈ l.map (·.1) /\ ∃ n, z2y prog 23 (.agg [.int .i64 k.act, .int .i64 k.item, .int .i64 k.n]) (mapI enc l) = some (some (n, z6r enc l k)) /\ z61 (mapI enc l) n (enc v) = mapI enc (l ++ [(k, v)])) \/
  (k ∉ l.map (·.1) /\ z2y prog 23 (.agg [.int .i64 k.act, .int .i64 k.item, .int .i64 k.n]) (mapI enc l) = some none /\ mapI enc l ++ [(.agg [.int .i64 k.act, .int .i64 k.item, .int .i64 k.n], enc v)] = mapI enc (l ++ [(k, v)])) := by
 have h1 := zcb enc l k
 have h2 := zu5 enc l k v
 rw [h1] at h2
 by_cases O : k ∈ l.map (·.1)
 ·rw [if_pos O] at h1 h2
  simp only [zow, Option.some.injEq, HObj.map.injEq] at h2
  exact .inl ⟨O, _, h1, h2⟩
 ·rw [if_neg O] at h1 h2
  simp only [zow, Option.some.injEq, HObj.map.injEq] at h2
  exact .inr ⟨O, h1, h2⟩
end
end
section
open Abs Facts Tr
attribute [local irreducible] awp
set_option maxRecDepth 100000
theorem z9n : ∀ l : List (Nat × Nat), z1i 2 (l.map fun p => D.agg (z22 p)) = some (l.flatMap z22)
 | [] => rfl
 | p :: l => by
  rw [List.map_cons, List.flatMap_cons]
  unfold z1i
  rw [z9n l]
  rfl
def zzg (l : List (Nat × Nat)) : HObj := .row 90 l.length (l.flatMap z22)
theorem zq3 (l : List (Nat × Nat)) (hl : l.length <= 1000000) (H : HM) (nx : Nat) : AC prog 64 [zt4 l] H nx fun r H' nx' => r = .osl nx l.length /\ H' = z0u H nx (some (zzg l)) /\ nx' = nx + 1 := by
 refine AC.split (pre := []) (post := []) (sz := 2) (els := l.map fun p => .agg (z22 p)) (fun he => ?_) ?_
 ·have hl0 : l = [] := by simpa using he
  subst hl0
  have hp : PC prog 64 [.nil] .nil := by
   refine z3l 2 rfl rfl (z2o [] func64 rfl (by decide +kernel) rfl ?_)
   show awp _ _ (Code.seq _ _) _ _
   repeat' (first | refine nxt ?_ | ((refine zqh fun K hK => ?_); (simp (disch := omega) only [go_sem, Nat.reduceBEq, ↓reduceIte])) | (refine zqd _ rfl ?_ ?_ <;> intro hc <;> (first | (cases hc; done) | ((try simp only [] at hc); (try omega)))) | refine zqu (by simp only [go_sem]; rfl) rfl ?_ | (refine hK _ ?_; clear hK K))
   exact z21 rfl (Le.refl _)
  exact zri 90 (hp.ac ⟨rfl, rfl, rfl, rfl⟩)
 ·have ho : OC prog 64 [.rsl true 2 (l.map fun p => .agg (z22 p))] [zzg l] (.osl 0 l.length) := by
   refine zca (by simp only [pureD.pureL, pureD, z0g (f := fun p => D.agg (z22 p)) (fun _ => rfl) l, Bool.and_self]) rfl (fun o ho => by simp at ho; subst ho; exact z0y (fun _ => rfl) _) (z2o [5] func64 rfl (by decide +kernel) rfl ?_)
   show awp _ _ (Code.seq _ _) _ _
   repeat' (first | refine nxt ?_ | ((refine zqh fun K hK => ?_); (simp (disch := omega) only [go_sem, Nat.reduceBEq, ↓reduceIte, reduceCtorEq, Nat.reduceAdd, Nat.reduceMul, z9n])) | (refine zqd _ rfl ?_ ?_ <;> intro hc <;> (first | (cases hc; done) | ((try simp only [] at hc); (try omega)))) | refine zqu (by simp only [go_sem]; rfl) rfl ?_ | (refine hK _ ?_; clear hK K))
   refine ⟨fun _ => 0, fun i j hi hj _ => by simp at hi hj; omega, ?_, fun j hj => ?_⟩
   ·(simp (disch := omega) only [go_sem, Nat.reduceBEq, renD])
   ·obtain rfl : j = 0 := by simp at hj; omega
    (simp (disch := omega) only [go_sem, zzg])
    try rfl
  exact ho.ac ⟨by simp [renD], rfl, rfl⟩
theorem zia (l : List (Nat × Nat)) (hl : l.length <= 1000000) : OC prog 64 [zt4 l] [zzg l] (.osl 0 l.length) :=
 ⟨by simp only [pureD.pureL, zhv, Bool.and_self], rfl, fun o ho => by simp at ho; subst ho; exact z0y (fun _ => rfl) _, fun H nx => (zq3 l hl H nx).mono fun r H' nx' ⟨h1, h2, h3⟩ => ⟨by rw [h1]; rfl, h2, h3⟩⟩
theorem zln (l : List Wd) (hl : l.length <= 1000000) : PC prog 59 [z1x l] (z2g (txt l)) := by
 refine z3l 2 (by simp only [pureD.pureL, z1t, Bool.and_self]) (z3e _) (z2o [3] func59 rfl (by decide +kernel) rfl ?_)
 show awp _ _ (Code.seq _ _) _ _
 repeat' (first | refine nxt ?_ | ((refine zqh fun K hK => ?_); (simp (disch := omega) only [go_sem, Nat.reduceBEq, ↓reduceIte, z1x])) | (refine hK _ ?_; clear hK K))
 (refine z8h (fun U st => ∃ (k : _), U = l.length - k /\ st.t 3 = .osl 0 k /\ st.t 6 = z1x l /\ st.t 7 = .int .i64 l.length /\ st.t 8 = .int .i64 k /\ st.H 0 = some (.row 9 k (((l.take k).map (·.text)).map .str)) /\ (k <= l.length) /\ (0 < st.nx)) ?_ ?_); rotate_left; (rintro U st ⟨k, rfl, s3, s6, s7, s8, sH0, sp0, sp1⟩); rotate_left
 ·(refine ⟨_, 0, rfl, ?_⟩); (simp (disch := omega) only [go_sem, Nat.reduceBEq, Nat.reduceLT, and_self, Int.natCast_zero, List.map_nil, z1x])
  try simp
 have htk : ∀ h : k < l.length, l.take (k + 1) = l.take k ++ [l[k]] := fun h => List.take_succ_eq_append_getElem h
 repeat' (first | ((first | refine zqh fun K hK => ?_ | refine zqr fun K hK => ?_); (simp (disch := omega) only [go_sem, Nat.reduceBEq, ↓reduceIte, reduceCtorEq, Nat.reduceAdd, Nat.reduceLeDiff, Nat.reduceLT, s3, s6, s7, s8, sH0, z1x])) | (refine zqd _ rfl ?_ ?_ <;> intro hc <;> (((try simp only [z0e] at hc); (try omega)))) | refine nxt ?_ | refine zqz ?_ | refine zqu (by simp only [go_sem]; rfl) rfl ?_ | (refine hK _ ?_; clear hK K))
 ·have htk := htk (by omega)
  (refine Exists.intro _ (And.intro ?_ ⟨k + 1, rfl, ?_⟩)); rotate_left; (simp (disch := omega) only [go_sem, Nat.reduceBEq, s3, s6, s7, s8, sH0, true_and, and_true, Int.natCast_add, Int.natCast_one, List.map_append, List.map_cons, List.map_nil, htk]); rotate_left
  ·omega
  ·omega
 ·have O : k = l.length := by omega
  subst O
  rw [List.take_length] at sH0
  have h2 : l.length = (txt l).length := by simp [txt]
  rw [h2] at sH0 ⊢
  exact zbh (z7f 0 sH0 z7v zbv (by simp) (zgc _))

theorem zgh {α β γ : Type} {ga : α -> γ} {gb : β -> γ} {gs : α -> β -> γ} {a : List α} {b : List β} : ∀ (l : List (Nat × Nat)) (i k : Nat), Rise a.length b.length l i k -> (wov ga gb gs a b l i k).length + i + k <= a.length + b.length
 | [], i, k, h => by
  obtain ⟨h1, h2⟩ := h
  simp only [wov, List.length_append, List.length_map, List.length_drop]; omega
 | (x, y) :: l, i, k, h => by
  obtain ⟨h1, h2, h3, h4, h5⟩ := h
  have ih := zgh (ga := ga) (gb := gb) (gs := gs) l _ _ h5
  rw [wov]
  rw [List.getElem?_eq_getElem h3, List.getElem?_eq_getElem h4]
  simp only [List.length_append, List.length_map, List.length_take, List.length_drop, List.length_cons, List.length_nil]
  omega
theorem z9o {α : Type} (a : List α) {i j : Nat} (h1 : i <= j) (h2 : j < a.length) : (a.drop i).take (j + 1 - i) = (a.drop i).take (j - i) ++ [a[j]] := by
 rw [show j + 1 - i = (j - i) + 1 by omega, List.take_succ_eq_append_getElem (by rw [List.length_drop]; omega), List.getElem_drop]
 congr 2
 simp only [show i + (j - i) = j by omega]
theorem zib {α β γ : Type} {ga : α -> γ} {gb : β -> γ} {gs : α -> β -> γ} {a : List α} {b : List β} {ps : List (Nat × Nat)} {W out : List γ} {j i k : Nat} (hj : j <= ps.length) (h : out ++ wov ga gb gs a b (ps.drop j) i k = W) (hr : Rise a.length b.length (ps.drop j) i k) :
  ∃ x y, (ps ++ [(a.length, b.length)])[j]? = some (x, y) /\ i <= x /\ x <= a.length /\ k <= y /\ y <= b.length /\ ∃ R, W = out ++ (((a.drop i).take (x - i)).map ga ++ (((b.drop k).take (y - k)).map gb ++ R)) /\
   ((j = ps.length /\ x = a.length /\ y = b.length /\ R = []) \/ (j < ps.length /\ ∃ (hx : x < a.length) (hy : y < b.length), R = gs a[x] b[y] :: wov ga gb gs a b (ps.drop (j + 1)) (x + 1) (y + 1) /\ Rise a.length b.length (ps.drop (j + 1)) (x + 1) (y + 1))) := by
 rcases Nat.lt_or_ge j ps.length with hlt | hge
 ·obtain ⟨x, y⟩ : Nat × Nat := ps[j]
  have V := List.drop_eq_getElem_cons hlt
  obtain ⟨x, y, he⟩ : ∃ x y, ps[j] = (x, y) := ⟨_, _, rfl⟩
  rw [V, he] at h hr
  obtain ⟨h1, h2, h3, h4, h5⟩ := hr
  refine ⟨x, y, by rw [List.getElem?_append_left hlt, List.getElem?_eq_getElem hlt, he], h1, by omega, h2, by omega, _, ?_, .inr ⟨hlt, h3, h4, rfl, h5⟩⟩
  rw [<- h, wov, List.getElem?_eq_getElem h3, List.getElem?_eq_getElem h4]
  rfl
 ·have e : j = ps.length := by omega
  subst e
  rw [List.drop_length] at h hr
  obtain ⟨h1, h2⟩ := hr
  refine ⟨a.length, b.length, by simp, h1, Nat.le_refl _, h2, Nat.le_refl _, [], ?_, .inl ⟨rfl, rfl, rfl, rfl⟩⟩
  rw [<- h, wov, List.take_of_length_le (by rw [List.length_drop]; omega), List.take_of_length_le (by rw [List.length_drop]; omega), List.append_nil]
set_option maxHeartbeats 16000000 in
theorem zq4 {H : HM} {nx : Nat} (ga : ByteArray -> Tw) (gb : ByteArray -> Tw) (gs : ByteArray -> ByteArray -> Tw) (a : List ByteArray) (b : List ByteArray) (ha : a.length <= 1000000) (hb : b.length <= 1000000) (ps : List (Nat × Nat)) (hps : ps.length <= 1000000) (hr : Rise a.length b.length ps 0 0)
  {g1 g2 g3 : FuncId} {c1 c2 c3 : List D}
  (h1 : ∀ x ∈ a, ∀ H' n', nx <= n' -> z33 nx H H' -> RC prog g1 (D.str x :: c1) H' n' (.agg (z2k (ga x))))
  (h2 : ∀ y ∈ b, ∀ H' n', nx <= n' -> z33 nx H H' -> RC prog g2 (D.str y :: c2) H' n' (.agg (z2k (gb y))))
  (h3 : ∀ x ∈ a, ∀ y ∈ b, ∀ H' n', nx <= n' -> z33 nx H H' -> RC prog g3 ((fun s : ByteArray => D.str s) x :: (fun s : ByteArray => D.str s) y :: c3) H' n' (.agg (z2k (gs x y)))) :
  AC prog 61 [z2g a, z2g b, zt4 ps, .fn g1 c1, .fn g2 c2, .fn g3 c3] H nx fun r H' _ => r = .osl nx (wov ga gb gs a b ps 0 0).length /\ H' nx = some (.row 53 (wov ga gb gs a b ps 0 0).length ((wov ga gb gs a b ps 0 0).flatMap z2k)) /\ z33 nx H H' := by
 have cl := zia ps hps
 have hcl : ps.flatMap z22 ++ [.int .i64 a.length, .int .i64 b.length] = (ps ++ [(a.length, b.length)]).flatMap z22 := by rw [List.flatMap_append]; rfl
 have hgr : z1e true 2 (ps.length + 1) ((ps ++ [(a.length, b.length)]).flatMap z22) = (ps ++ [(a.length, b.length)]).map fun p => D.agg (z22 p) := by
  have h := z4r (f := z22) (sz := 2) (fun _ => rfl) (ps ++ [(a.length, b.length)])
  rw [List.length_append] at h
  exact h
 have hpu : pureD.pureL ((ps ++ [(a.length, b.length)]).flatMap z22) = true := z0y (fun _ => rfl) _
 obtain ⟨W, hW⟩ : ∃ W, W = wov ga gb gs a b ps 0 0 := ⟨_, rfl⟩
 have hWl : W.length <= a.length + b.length := by have := zgh (ga := ga) (gb := gb) (gs := gs) ps 0 0 hr; rw [hW]; omega
 obtain ⟨L, hL⟩ : ∃ L, L = (ps ++ [(a.length, b.length)]).map fun p => D.agg (z22 p) := ⟨_, rfl⟩
 have hLl : L.length = ps.length + 1 := by rw [hL]; simp
 have hLg : ∀ j (h : j < (ps ++ [(a.length, b.length)]).length), L[j]? = some (.agg [.int .i64 ((ps ++ [(a.length, b.length)])[j].1 : Nat), .int .i64 ((ps ++ [(a.length, b.length)])[j].2 : Nat)]) := fun j h => by
  rw [hL, List.getElem?_map, List.getElem?_eq_getElem h]; rfl
 rw [<- hL] at hgr
 rw [<- hW]
 have hn1 : (nx == nx + 1) = false := z1o (by omega)
 refine (z2o [13, 2000026] func61 rfl (by decide +kernel) rfl ?_)
 show awp _ _ (Code.seq _ _) _ _
 repeat' (first | refine nxt ?_ | ((first | refine z1k (N := 4) rfl fun K hK => ?_ | refine z9k (cl) ?_); (simp (disch := omega) only [go_sem, Nat.reduceBEq, ↓reduceIte, reduceCtorEq, Nat.reduceAdd, Nat.reduceMul, Nat.reduceLeDiff, z2g, zzg, hcl, hgr, hpu, hLl])) | (refine hK _ ?_; clear hK K))
 (refine z8h (fun U st => ∃ (j : _) (i : Nat) (k : Nat) (out : List Tw), U = ps.length + 1 - j /\ st.t 0 = z2g a /\ st.t 1 = z2g b /\ st.t 3 = .fn g1 c1 /\ st.t 4 = .fn g2 c2 /\ st.t 5 = .fn g3 c3 /\ st.t 13 = .osl nx out.length /\ st.t 14 = .int .i64 i /\ st.t 15 = .int .i64 k /\ st.t 26 = .rsl false 2 L /\ st.t 27 = .int .i64 ((ps.length + 1 : Nat) : Int) /\ st.t 28 = .int .i64 j /\ st.H (nx) = some (.row 53 out.length (out.flatMap z2k)) /\ (j <= ps.length + 1) /\ (nx < st.nx) /\ (z33 nx H st.H) /\ ((j <= ps.length /\ out ++ wov ga gb gs a b (ps.drop j) i k = W /\ Rise a.length b.length (ps.drop j) i k) \/ (j = ps.length + 1 /\ out = W))) ?_ ?_); rotate_left; (rintro U st ⟨j, i, k, out, rfl, q0, q1, q3, q4, q5, q13, q14, q15, q26, q27, q28, qHnx, qp0, qp1, qp2, qp3⟩); rotate_left
 ·(refine ⟨_, 0, 0, 0, [], rfl, ?_⟩); (simp (disch := omega) only [go_sem, Nat.reduceBEq, reduceCtorEq, true_and, Int.natCast_add, Int.natCast_one, Int.natCast_zero, List.flatMap_nil, List.nil_append, z2g, hn1])
  exact ⟨fun id hid => by simp (disch := omega) only [z4l], .inl ⟨hW.symm, hr⟩⟩
 have hq := z03 qp1
 have hst : ∀ {H' : HM} {n' : Nat}, z33 (nx + 1) st.H H' -> z33 nx H H' := fun h id hid => (h id (by omega)).trans (qp2 id hid)
 by_cases hj : j <= ps.length
 ·obtain ⟨hw, hri⟩ : out ++ wov ga gb gs a b (ps.drop j) i k = W /\ Rise a.length b.length (ps.drop j) i k := by
   rcases qp3 with ⟨_, h4, h5⟩ | ⟨h4, _⟩
   ·exact ⟨h4, h5⟩
   ·omega
  clear qp3
  obtain ⟨x, y, hxy, hix, hxa, hky, hyb, R, hWd, hR⟩ := zib hj hw hri
  have hg : L[j]? = some (.agg [.int .i64 (x : Int), .int .i64 (y : Int)]) := by rw [hL, List.getElem?_map, hxy]; rfl
  have hg : zft L (j : Int) = some (.agg [.int .i64 (x : Int), .int .i64 (y : Int)]) := by
   unfold zft
   rw [if_pos ⟨by omega, by omega⟩, Int.toNat_natCast, hg]
  obtain ⟨B, hB⟩ : ∃ B, B = st.nx := ⟨_, rfl⟩
  rw [<- hB] at hq
  have hol : (out ++ ((a.drop i).take (x - i)).map ga).length + ((b.drop k).take (y - k)).length + R.length = W.length := by rw [hWd]; simp; omega
  have hsc : ∀ z, (z2k z).length = 2 := fun z => rfl
  repeat' (first | ((refine z1k (N := 6) rfl fun K hK => ?_); (simp (disch := omega) only [go_sem, Nat.reduceBEq, ↓reduceIte, reduceCtorEq, Nat.reduceAdd, Nat.reduceLeDiff, q26, q27, q28, hg])) | (refine zqd _ rfl ?_ ?_ <;> intro hc <;> (((try simp only [z0e] at hc); (try omega)))) | refine nxt ?_ | (refine hK _ ?_; clear hK K))
  have hBn : nx < B := by omega
  (refine z8h (fun U st => ∃ (m : Nat) (o1 : List Tw), U = x - m /\ st.t 0 = z2g a /\ st.t 1 = z2g b /\ st.t 3 = .fn g1 c1 /\ st.t 4 = .fn g2 c2 /\ st.t 5 = .fn g3 c3 /\ st.t 17 = .ptr B 0 /\ st.t 26 = .rsl false 2 L /\ st.t 27 = .int .i64 ((ps.length + 1 : Nat) : Int) /\ st.t 28 = .int .i64 j /\ st.t 13 = .osl nx o1.length /\ st.t 14 = .int .i64 m /\ st.t 15 = .int .i64 k /\ st.H (nx) = some (.row 53 o1.length (o1.flatMap z2k)) /\ st.H (B) = some (.box 90 [.int .i64 x, .int .i64 y]) /\ (i <= m) /\ (m <= x) /\ (B < st.nx) /\ (z33 nx H st.H) /\ (o1 = out ++ ((a.drop i).take (m - i)).map ga)) ?_ ?_); rotate_left; (rintro U st ⟨m, o1, rfl, r0, r1, r3, r4, r5, r17, r26, r27, r28, r13, r14, r15, rHnx, rHB, rp0, rp1, rp2, rp3, rp4⟩); rotate_left
  ·(refine ⟨_, i, out, rfl, ?_⟩); (simp (disch := omega) only [go_sem, Nat.reduceBEq, q0, q1, q3, q4, q5, q13, q14, q15, q26, q27, q28, qHnx, true_and, Int.natCast_add, Int.natCast_one, z2g, hB])
   refine ⟨Nat.le_refl _, hix, by omega, fun id hid => by simp (disch := omega) only [z4l]; exact qp2 id hid, by simp⟩
  have hrq := z03 rp2
  have hrn := z03 (show nx < st.nx by omega)
  have hBx : (B == nx) = false := z1o (by omega)
  have hxB : (nx == B) = false := z1o (by omega)
  by_cases hm : m < x
  ·have hma : m < a.length := by omega
   have c1 := h1 a[m] (List.getElem_mem hma) st.H st.nx (by omega) rp3
   have htm := z9o a rp0 hma
   have ho1 : o1.length <= 2000000 := by rw [rp4, List.length_append, List.length_map, List.length_take]; simp only [List.length_append, List.length_map, List.length_take] at hol; omega
   repeat' (first | refine nxt ?_ | ((first | refine zqh fun K hK => ?_ | refine zqr fun K hK => ?_ | refine z34 (c1) ?_); (simp (disch := omega) only [go_sem, Nat.reduceBEq, ↓reduceIte, reduceCtorEq, Nat.reduceAdd, Nat.reduceMul, Nat.reduceLeDiff, r0, r3, r17, r13, r14, rHnx, rHB, z2g, hsc, List.append_nil])) | (refine zqd _ rfl ?_ ?_ <;> intro hc <;> (((try simp only [z0e] at hc); (try omega)))) | (refine hK _ ?_; clear hK K))
   (refine Exists.intro _ (And.intro ?_ ⟨m + 1, o1 ++ [ga a[m]], rfl, ?_⟩)); rotate_left; (simp (disch := omega) only [go_sem, Nat.reduceBEq, r0, r1, r3, r4, r5, r17, r26, r27, r28, r13, r14, r15, rHnx, rHB, true_and, Int.natCast_add, Int.natCast_one, List.flatMap_append, List.flatMap_cons, List.flatMap_nil, List.append_nil, hBx]); rotate_left
   ·omega
   ·exact ⟨by omega, by omega, rp2, fun id hid => by rw [z26 _ (by omega)]; exact rp3 id hid, by rw [rp4, htm, List.map_append, List.append_assoc]; rfl⟩
  ·obtain rfl : m = x := by omega
   repeat' (first | refine nxt ?_ | ((refine z1k (N := 9) rfl fun K hK => ?_); (simp (disch := omega) only [go_sem, Nat.reduceBEq, ↓reduceIte, reduceCtorEq, Nat.reduceAdd, r17, r14, rHB])) | (refine zqd _ rfl ?_ ?_ <;> intro hc <;> (((try simp only [z0e] at hc); (try omega)))) | refine zqz ?_ | (refine hK _ ?_; clear hK K))
   (refine z8h (fun U st => ∃ (n : Nat) (o2 : List Tw), U = y - n /\ st.t 0 = z2g a /\ st.t 1 = z2g b /\ st.t 3 = .fn g1 c1 /\ st.t 4 = .fn g2 c2 /\ st.t 5 = .fn g3 c3 /\ st.t 17 = .ptr B 0 /\ st.t 26 = .rsl false 2 L /\ st.t 27 = .int .i64 ((ps.length + 1 : Nat) : Int) /\ st.t 28 = .int .i64 j /\ st.t 13 = .osl nx o2.length /\ st.t 14 = .int .i64 m /\ st.t 15 = .int .i64 n /\ st.H (nx) = some (.row 53 o2.length (o2.flatMap z2k)) /\ st.H (B) = some (.box 90 [.int .i64 m, .int .i64 y]) /\ (k <= n) /\ (n <= y) /\ (B < st.nx) /\ (z33 nx H st.H) /\ (o2 = out ++ (((a.drop i).take (m - i)).map ga ++ ((b.drop k).take (n - k)).map gb))) ?_ ?_); rotate_left; (rintro U st ⟨n, o2, rfl, t0, t1, t3, t4, t5, t17, t26, t27, t28, t13, t14, t15, tHnx, tHB, tp0, tp1, tp2, tp3, tp4⟩); rotate_left
   ·(refine ⟨_, k, o1, rfl, ?_⟩); (simp (disch := omega) only [go_sem, Nat.reduceBEq, r0, r1, r3, r4, r5, r17, r26, r27, r28, r13, r14, r15, rHnx, rHB, true_and, Int.natCast_add, Int.natCast_one, z2g])
    refine ⟨Nat.le_refl _, hky, rp2, rp3, by rw [rp4]; simp⟩
   have htq := z03 tp2
   have htn := z03 (show nx < st.nx by omega)
   have hto : o2.length + ((b.drop k).take (y - k)).length - ((b.drop k).take (n - k)).length + R.length = W.length /\ o2.length <= 2000000 := by
    rw [tp4]
    simp only [List.length_append, List.length_map, List.length_take, List.length_drop] at hol ⊢
    omega
   by_cases hn : n < y
   ·have hnb : n < b.length := by omega
    have c2 := h2 b[n] (List.getElem_mem hnb) st.H st.nx (by omega) tp3
    have htm := z9o b tp0 hnb
    repeat' (first | refine nxt ?_ | ((first | refine zqh fun K hK => ?_ | refine zqr fun K hK => ?_ | refine z34 (c2) ?_); (simp (disch := omega) only [go_sem, Nat.reduceBEq, ↓reduceIte, reduceCtorEq, Nat.reduceAdd, Nat.reduceMul, Nat.reduceLeDiff, t1, t4, t17, t13, t15, tHnx, tHB, z2g, hsc, List.append_nil])) | (refine zqd _ rfl ?_ ?_ <;> intro hc <;> (((try simp only [z0e] at hc); (try omega)))) | (refine hK _ ?_; clear hK K))
    (refine Exists.intro _ (And.intro ?_ ⟨n + 1, o2 ++ [gb b[n]], rfl, ?_⟩)); rotate_left; (simp (disch := omega) only [go_sem, Nat.reduceBEq, t0, t1, t3, t4, t5, t17, t26, t27, t28, t13, t14, t15, tHnx, tHB, true_and, Int.natCast_add, Int.natCast_one, List.flatMap_append, List.flatMap_cons, List.flatMap_nil, List.append_nil, hBx]); rotate_left
    ·omega
    ·exact ⟨by omega, by omega, tp2, fun id hid => by rw [z26 _ (by omega)]; exact tp3 id hid, by rw [tp4, htm]; simp⟩
   ·obtain rfl : n = y := by omega
    rcases hR with ⟨rfl, rfl, rfl, rfl⟩ | ⟨hjl, hxl, hyl, rfl, hri2⟩
    ·repeat' (first | refine nxt ?_ | ((first | refine zqh fun K hK => ?_ | refine zqr fun K hK => ?_); (simp (disch := omega) only [go_sem, Nat.reduceBEq, ↓reduceIte, reduceCtorEq, Nat.reduceAdd, t0, t17, t28, t15, tHB, z2g])) | ((first | refine zqd _ rfl (fun hc => ?_) (fun hc => ?_) | refine zqm _ rfl (fun hc => ?_) (fun hc => ?_)) <;> (first | (cases hc; done) | ((try simp only [z0e] at hc); (try omega)))) | refine zqz ?_ | (refine hK _ ?_; clear hK K) | (refine zqf (fun hb => ?_) (fun hb => ?_) <;> (have hb2 := hb; try simp only [z0e] at hb2) <;> ((first | have F := eq_false hb2 | have F := eq_true hb2); (simp (disch := omega) only [go_sem, Nat.reduceBEq, ↓reduceIte, reduceCtorEq, Nat.reduceAdd, F, t1, t17, tHB, z2g]); clear hb F; (try omega))))
     (refine Exists.intro _ (And.intro ?_ ⟨ps.length + 1, a.length, b.length, o2, rfl, ?_⟩)); rotate_left; (simp (disch := omega) only [go_sem, Nat.reduceBEq, Nat.reduceLeDiff, t0, t1, t3, t4, t5, t26, t27, t28, t13, t14, t15, tHnx, true_and, Int.natCast_add, Int.natCast_one]); rotate_left
     ·omega
     ·exact ⟨Nat.le_refl _, by omega, tp3, .inr (by rw [hWd, tp4]; simp)⟩
    ·have c3 := h3 a[m] (List.getElem_mem hxl) b[n] (List.getElem_mem hyl) st.H st.nx (by omega) tp3
     repeat' (first | refine nxt ?_ | ((first | refine zqh fun K hK => ?_ | refine zqe (by decide +kernel) fun K hK => ?_ | refine zqr fun K hK => ?_ | refine zh8 (c3) rfl ?_); (simp (disch := omega) only [go_sem, Nat.reduceBEq, Nat.reduceEqDiff, ↓reduceIte, reduceCtorEq, Nat.reduceAdd, Nat.reduceMul, Nat.reduceLeDiff, t0, t1, t5, t17, t28, t13, t14, t15, tHnx, tHB, z2g, hsc, List.append_nil])) | ((first | refine zqd _ rfl (fun hc => ?_) (fun hc => ?_) | refine zqm _ rfl (fun hc => ?_) (fun hc => ?_)) <;> (((try simp only [z0e] at hc); (try omega)))) | refine zqz ?_ | (refine hK _ ?_; clear hK K) | (refine zqf (fun hb => ?_) (fun hb => ?_) <;> (have hb2 := hb; try simp only [z0e] at hb2) <;> ((first | have F := eq_false hb2 | have F := eq_true hb2); (simp (disch := omega) only [go_sem, Nat.reduceBEq, ↓reduceIte, reduceCtorEq, Nat.reduceAdd, F, t1, t17, tHB, z2g]); clear hb F; (try omega))))
     (refine Exists.intro _ (And.intro ?_ ⟨j + 1, m + 1, n + 1, o2 ++ [gs a[m] b[n]], rfl, ?_⟩)); rotate_left; (simp (disch := omega) only [go_sem, Nat.reduceBEq, Nat.reduceEqDiff, Nat.reduceLeDiff, t0, t1, t3, t4, t5, t26, t27, t28, t13, t14, t15, tHnx, true_and, Int.natCast_add, Int.natCast_one, List.flatMap_append, List.flatMap_cons, List.flatMap_nil, List.append_nil]); rotate_left
     ·omega
     ·exact ⟨by omega, by omega, fun id hid => by rw [z26 _ (by omega)]; exact tp3 id hid, .inl ⟨by omega, by rw [hWd, tp4]; simp, hri2⟩⟩
 ·skip
  repeat' (first | ((refine zqh fun K hK => ?_); (simp (disch := omega) only [go_sem, Nat.reduceBEq, ↓reduceIte, q13, q27, q28])) | (refine zqd _ rfl ?_ ?_ <;> intro hc <;> (((try simp only [z0e] at hc); (try omega)))) | refine nxt ?_ | refine zqz ?_ | refine zqu (by simp only [go_sem]; rfl) rfl ?_ | (refine hK _ ?_; clear hK K))
  obtain rfl : out = W := by
   rcases qp3 with ⟨h, _⟩ | ⟨_, h⟩
   ·omega
   ·exact h
  (simp (disch := omega) only [go_sem, Nat.reduceBEq, qHnx])
  exact qp2
set_option maxHeartbeats 16000000 in
theorem zq5 {H : HM} {nx : Nat} (ga : T -> TT) (gb : T -> TT) (gs : T -> T -> TT) (a : List T) (b : List T) (ha : a.length <= 1000000) (hb : b.length <= 1000000) (ps : List (Nat × Nat)) (hps : ps.length <= 1000000) (hr : Rise a.length b.length ps 0 0)
  {g1 g2 g3 : FuncId} {c1 c2 c3 : List D}
  (h1 : ∀ x ∈ a, ∀ H' n', nx <= n' -> z33 nx H H' -> RC prog g1 (c1 ++ [z1n x]) H' n' (.agg (z0s (ga x))))
  (h2 : ∀ y ∈ b, ∀ H' n', nx <= n' -> z33 nx H H' -> RC prog g2 (c2 ++ [z1n y]) H' n' (.agg (z0s (gb y))))
  (h3 : ∀ x ∈ a, ∀ y ∈ b, ∀ H' n', nx <= n' -> z33 nx H H' -> RC prog g3 (z1n x :: z1n y :: c3) H' n' (.agg (z0s (gs x y)))) :
  AC prog 46 [z0t a, z0t b, zt4 ps, .bfn g1 c1, .bfn g2 c2, .fn g3 c3] H nx fun r H' _ => r = .osl nx (wov ga gb gs a b ps 0 0).length /\ H' nx = some (.row 33 (wov ga gb gs a b ps 0 0).length ((wov ga gb gs a b ps 0 0).flatMap z0s)) /\ z33 nx H H' := by
 have cl := zia ps hps
 have hcl : ps.flatMap z22 ++ [.int .i64 a.length, .int .i64 b.length] = (ps ++ [(a.length, b.length)]).flatMap z22 := by rw [List.flatMap_append]; rfl
 have hgr : z1e true 2 (ps.length + 1) ((ps ++ [(a.length, b.length)]).flatMap z22) = (ps ++ [(a.length, b.length)]).map fun p => D.agg (z22 p) := by
  have h := z4r (f := z22) (sz := 2) (fun _ => rfl) (ps ++ [(a.length, b.length)])
  rw [List.length_append] at h
  exact h
 have hpu : pureD.pureL ((ps ++ [(a.length, b.length)]).flatMap z22) = true := z0y (fun _ => rfl) _
 obtain ⟨W, hW⟩ : ∃ W, W = wov ga gb gs a b ps 0 0 := ⟨_, rfl⟩
 have hWl : W.length <= a.length + b.length := by have := zgh (ga := ga) (gb := gb) (gs := gs) ps 0 0 hr; rw [hW]; omega
 obtain ⟨L, hL⟩ : ∃ L, L = (ps ++ [(a.length, b.length)]).map fun p => D.agg (z22 p) := ⟨_, rfl⟩
 have hLl : L.length = ps.length + 1 := by rw [hL]; simp
 have hLg : ∀ j (h : j < (ps ++ [(a.length, b.length)]).length), L[j]? = some (.agg [.int .i64 ((ps ++ [(a.length, b.length)])[j].1 : Nat), .int .i64 ((ps ++ [(a.length, b.length)])[j].2 : Nat)]) := fun j h => by
  rw [hL, List.getElem?_map, List.getElem?_eq_getElem h]; rfl
 rw [<- hL] at hgr
 rw [<- hW]
 have hn1 : (nx == nx + 1) = false := z1o (by omega)
 refine (z2o [13, 2000026] func46 rfl (by decide +kernel) rfl ?_)
 show awp _ _ (Code.seq _ _) _ _
 repeat' (first | refine nxt ?_ | ((first | refine z1k (N := 4) rfl fun K hK => ?_ | refine z9k (cl) ?_); (simp (disch := omega) only [go_sem, Nat.reduceBEq, ↓reduceIte, reduceCtorEq, Nat.reduceAdd, Nat.reduceMul, Nat.reduceLeDiff, z0t, zzg, hcl, hgr, hpu, hLl])) | (refine hK _ ?_; clear hK K))
 (refine z8h (fun U st => ∃ (j : _) (i : Nat) (k : Nat) (out : List TT), U = ps.length + 1 - j /\ st.t 0 = z0t a /\ st.t 1 = z0t b /\ st.t 3 = .bfn g1 c1 /\ st.t 4 = .bfn g2 c2 /\ st.t 5 = .fn g3 c3 /\ st.t 13 = .osl nx out.length /\ st.t 14 = .int .i64 i /\ st.t 15 = .int .i64 k /\ st.t 26 = .rsl false 2 L /\ st.t 27 = .int .i64 ((ps.length + 1 : Nat) : Int) /\ st.t 28 = .int .i64 j /\ st.H (nx) = some (.row 33 out.length (out.flatMap z0s)) /\ (j <= ps.length + 1) /\ (nx < st.nx) /\ (z33 nx H st.H) /\ ((j <= ps.length /\ out ++ wov ga gb gs a b (ps.drop j) i k = W /\ Rise a.length b.length (ps.drop j) i k) \/ (j = ps.length + 1 /\ out = W))) ?_ ?_); rotate_left; (rintro U st ⟨j, i, k, out, rfl, q0, q1, q3, q4, q5, q13, q14, q15, q26, q27, q28, qHnx, qp0, qp1, qp2, qp3⟩); rotate_left
 ·(refine ⟨_, 0, 0, 0, [], rfl, ?_⟩); (simp (disch := omega) only [go_sem, Nat.reduceBEq, reduceCtorEq, true_and, Int.natCast_add, Int.natCast_one, Int.natCast_zero, List.flatMap_nil, List.nil_append, z0t, hn1])
  exact ⟨fun id hid => by simp (disch := omega) only [z4l], .inl ⟨hW.symm, hr⟩⟩
 have hq := z03 qp1
 have hst : ∀ {H' : HM} {n' : Nat}, z33 (nx + 1) st.H H' -> z33 nx H H' := fun h id hid => (h id (by omega)).trans (qp2 id hid)
 by_cases hj : j <= ps.length
 ·obtain ⟨hw, hri⟩ : out ++ wov ga gb gs a b (ps.drop j) i k = W /\ Rise a.length b.length (ps.drop j) i k := by
   rcases qp3 with ⟨_, h4, h5⟩ | ⟨h4, _⟩
   ·exact ⟨h4, h5⟩
   ·omega
  clear qp3
  obtain ⟨x, y, hxy, hix, hxa, hky, hyb, R, hWd, hR⟩ := zib hj hw hri
  have hg : L[j]? = some (.agg [.int .i64 (x : Int), .int .i64 (y : Int)]) := by rw [hL, List.getElem?_map, hxy]; rfl
  have hg : zft L (j : Int) = some (.agg [.int .i64 (x : Int), .int .i64 (y : Int)]) := by
   unfold zft
   rw [if_pos ⟨by omega, by omega⟩, Int.toNat_natCast, hg]
  obtain ⟨B, hB⟩ : ∃ B, B = st.nx := ⟨_, rfl⟩
  rw [<- hB] at hq
  have hol : (out ++ ((a.drop i).take (x - i)).map ga).length + ((b.drop k).take (y - k)).length + R.length = W.length := by rw [hWd]; simp; omega
  have hsc : ∀ z, (z0s z).length = 11 := fun z => z41 z
  repeat' (first | ((refine z1k (N := 6) rfl fun K hK => ?_); (simp (disch := omega) only [go_sem, Nat.reduceBEq, ↓reduceIte, reduceCtorEq, Nat.reduceAdd, Nat.reduceLeDiff, q26, q27, q28, hg])) | (refine zqd _ rfl ?_ ?_ <;> intro hc <;> (((try simp only [z0e] at hc); (try omega)))) | refine nxt ?_ | (refine hK _ ?_; clear hK K))
  have hBn : nx < B := by omega
  (refine z8h (fun U st => ∃ (m : Nat) (o1 : List TT), U = x - m /\ st.t 0 = z0t a /\ st.t 1 = z0t b /\ st.t 3 = .bfn g1 c1 /\ st.t 4 = .bfn g2 c2 /\ st.t 5 = .fn g3 c3 /\ st.t 17 = .ptr B 0 /\ st.t 26 = .rsl false 2 L /\ st.t 27 = .int .i64 ((ps.length + 1 : Nat) : Int) /\ st.t 28 = .int .i64 j /\ st.t 13 = .osl nx o1.length /\ st.t 14 = .int .i64 m /\ st.t 15 = .int .i64 k /\ st.H (nx) = some (.row 33 o1.length (o1.flatMap z0s)) /\ st.H (B) = some (.box 90 [.int .i64 x, .int .i64 y]) /\ (i <= m) /\ (m <= x) /\ (B < st.nx) /\ (z33 nx H st.H) /\ (o1 = out ++ ((a.drop i).take (m - i)).map ga)) ?_ ?_); rotate_left; (rintro U st ⟨m, o1, rfl, r0, r1, r3, r4, r5, r17, r26, r27, r28, r13, r14, r15, rHnx, rHB, rp0, rp1, rp2, rp3, rp4⟩); rotate_left
  ·(refine ⟨_, i, out, rfl, ?_⟩); (simp (disch := omega) only [go_sem, Nat.reduceBEq, q0, q1, q3, q4, q5, q13, q14, q15, q26, q27, q28, qHnx, true_and, Int.natCast_add, Int.natCast_one, z0t, hB])
   refine ⟨Nat.le_refl _, hix, by omega, fun id hid => by simp (disch := omega) only [z4l]; exact qp2 id hid, by simp⟩
  have hrq := z03 rp2
  have hrn := z03 (show nx < st.nx by omega)
  have hBx : (B == nx) = false := z1o (by omega)
  have hxB : (nx == B) = false := z1o (by omega)
  by_cases hm : m < x
  ·have hma : m < a.length := by omega
   have c1 := h1 a[m] (List.getElem_mem hma) st.H st.nx (by omega) rp3
   have htm := z9o a rp0 hma
   have ho1 : o1.length <= 2000000 := by rw [rp4, List.length_append, List.length_map, List.length_take]; simp only [List.length_append, List.length_map, List.length_take] at hol; omega
   repeat' (first | refine nxt ?_ | ((first | refine zqh fun K hK => ?_ | refine zqr fun K hK => ?_ | refine zm9 (c1) ?_); (simp (disch := omega) only [go_sem, Nat.reduceBEq, ↓reduceIte, reduceCtorEq, Nat.reduceAdd, Nat.reduceMul, Nat.reduceLeDiff, r0, r3, r17, r13, r14, rHnx, rHB, z0t, hsc, List.append_nil])) | (refine zqd _ rfl ?_ ?_ <;> intro hc <;> (((try simp only [z0e] at hc); (try omega)))) | (refine hK _ ?_; clear hK K))
   (refine Exists.intro _ (And.intro ?_ ⟨m + 1, o1 ++ [ga a[m]], rfl, ?_⟩)); rotate_left; (simp (disch := omega) only [go_sem, Nat.reduceBEq, r0, r1, r3, r4, r5, r17, r26, r27, r28, r13, r14, r15, rHnx, rHB, true_and, Int.natCast_add, Int.natCast_one, List.flatMap_append, List.flatMap_cons, List.flatMap_nil, List.append_nil, hBx]); rotate_left
   ·omega
   ·exact ⟨by omega, by omega, rp2, fun id hid => by rw [z26 _ (by omega)]; exact rp3 id hid, by rw [rp4, htm, List.map_append, List.append_assoc]; rfl⟩
  ·obtain rfl : m = x := by omega
   repeat' (first | refine nxt ?_ | ((refine z1k (N := 9) rfl fun K hK => ?_); (simp (disch := omega) only [go_sem, Nat.reduceBEq, ↓reduceIte, reduceCtorEq, Nat.reduceAdd, r17, r14, rHB])) | (refine zqd _ rfl ?_ ?_ <;> intro hc <;> (((try simp only [z0e] at hc); (try omega)))) | refine zqz ?_ | (refine hK _ ?_; clear hK K))
   (refine z8h (fun U st => ∃ (n : Nat) (o2 : List TT), U = y - n /\ st.t 0 = z0t a /\ st.t 1 = z0t b /\ st.t 3 = .bfn g1 c1 /\ st.t 4 = .bfn g2 c2 /\ st.t 5 = .fn g3 c3 /\ st.t 17 = .ptr B 0 /\ st.t 26 = .rsl false 2 L /\ st.t 27 = .int .i64 ((ps.length + 1 : Nat) : Int) /\ st.t 28 = .int .i64 j /\ st.t 13 = .osl nx o2.length /\ st.t 14 = .int .i64 m /\ st.t 15 = .int .i64 n /\ st.H (nx) = some (.row 33 o2.length (o2.flatMap z0s)) /\ st.H (B) = some (.box 90 [.int .i64 m, .int .i64 y]) /\ (k <= n) /\ (n <= y) /\ (B < st.nx) /\ (z33 nx H st.H) /\ (o2 = out ++ (((a.drop i).take (m - i)).map ga ++ ((b.drop k).take (n - k)).map gb))) ?_ ?_); rotate_left; (rintro U st ⟨n, o2, rfl, t0, t1, t3, t4, t5, t17, t26, t27, t28, t13, t14, t15, tHnx, tHB, tp0, tp1, tp2, tp3, tp4⟩); rotate_left
   ·(refine ⟨_, k, o1, rfl, ?_⟩); (simp (disch := omega) only [go_sem, Nat.reduceBEq, r0, r1, r3, r4, r5, r17, r26, r27, r28, r13, r14, r15, rHnx, rHB, true_and, Int.natCast_add, Int.natCast_one, z0t])
    refine ⟨Nat.le_refl _, hky, rp2, rp3, by rw [rp4]; simp⟩
   have htq := z03 tp2
   have htn := z03 (show nx < st.nx by omega)
   have hto : o2.length + ((b.drop k).take (y - k)).length - ((b.drop k).take (n - k)).length + R.length = W.length /\ o2.length <= 2000000 := by
    rw [tp4]
    simp only [List.length_append, List.length_map, List.length_take, List.length_drop] at hol ⊢
    omega
   by_cases hn : n < y
   ·have hnb : n < b.length := by omega
    have c2 := h2 b[n] (List.getElem_mem hnb) st.H st.nx (by omega) tp3
    have htm := z9o b tp0 hnb
    repeat' (first | refine nxt ?_ | ((first | refine zqh fun K hK => ?_ | refine zqr fun K hK => ?_ | refine zm9 (c2) ?_); (simp (disch := omega) only [go_sem, Nat.reduceBEq, ↓reduceIte, reduceCtorEq, Nat.reduceAdd, Nat.reduceMul, Nat.reduceLeDiff, t1, t4, t17, t13, t15, tHnx, tHB, z0t, hsc, List.append_nil])) | (refine zqd _ rfl ?_ ?_ <;> intro hc <;> (((try simp only [z0e] at hc); (try omega)))) | (refine hK _ ?_; clear hK K))
    (refine Exists.intro _ (And.intro ?_ ⟨n + 1, o2 ++ [gb b[n]], rfl, ?_⟩)); rotate_left; (simp (disch := omega) only [go_sem, Nat.reduceBEq, t0, t1, t3, t4, t5, t17, t26, t27, t28, t13, t14, t15, tHnx, tHB, true_and, Int.natCast_add, Int.natCast_one, List.flatMap_append, List.flatMap_cons, List.flatMap_nil, List.append_nil, hBx]); rotate_left
    ·omega
    ·exact ⟨by omega, by omega, tp2, fun id hid => by rw [z26 _ (by omega)]; exact tp3 id hid, by rw [tp4, htm]; simp⟩
   ·obtain rfl : n = y := by omega
    rcases hR with ⟨rfl, rfl, rfl, rfl⟩ | ⟨hjl, hxl, hyl, rfl, hri2⟩
    ·repeat' (first | refine nxt ?_ | ((first | refine zqh fun K hK => ?_ | refine zqr fun K hK => ?_); (simp (disch := omega) only [go_sem, Nat.reduceBEq, ↓reduceIte, reduceCtorEq, Nat.reduceAdd, t0, t17, t28, t15, tHB, z0t])) | ((first | refine zqd _ rfl (fun hc => ?_) (fun hc => ?_) | refine zqm _ rfl (fun hc => ?_) (fun hc => ?_)) <;> (first | (cases hc; done) | ((try simp only [z0e] at hc); (try omega)))) | refine zqz ?_ | (refine hK _ ?_; clear hK K) | (refine zqf (fun hb => ?_) (fun hb => ?_) <;> (have hb2 := hb; try simp only [z0e] at hb2) <;> ((first | have F := eq_false hb2 | have F := eq_true hb2); (simp (disch := omega) only [go_sem, Nat.reduceBEq, ↓reduceIte, reduceCtorEq, Nat.reduceAdd, F, t1, t17, tHB, z0t]); clear hb F; (try omega))))
     (refine Exists.intro _ (And.intro ?_ ⟨ps.length + 1, a.length, b.length, o2, rfl, ?_⟩)); rotate_left; (simp (disch := omega) only [go_sem, Nat.reduceBEq, Nat.reduceLeDiff, t0, t1, t3, t4, t5, t26, t27, t28, t13, t14, t15, tHnx, true_and, Int.natCast_add, Int.natCast_one]); rotate_left
     ·omega
     ·exact ⟨Nat.le_refl _, by omega, tp3, .inr (by rw [hWd, tp4]; simp)⟩
    ·have c3 := h3 a[m] (List.getElem_mem hxl) b[n] (List.getElem_mem hyl) st.H st.nx (by omega) tp3
     repeat' (first | refine nxt ?_ | ((first | refine zqh fun K hK => ?_ | refine zqe (by decide +kernel) fun K hK => ?_ | refine zqr fun K hK => ?_ | refine zh8 (c3) rfl ?_); (simp (disch := omega) only [go_sem, Nat.reduceBEq, Nat.reduceEqDiff, ↓reduceIte, reduceCtorEq, Nat.reduceAdd, Nat.reduceMul, Nat.reduceLeDiff, t0, t1, t5, t17, t28, t13, t14, t15, tHnx, tHB, z0t, hsc, List.append_nil])) | ((first | refine zqd _ rfl (fun hc => ?_) (fun hc => ?_) | refine zqm _ rfl (fun hc => ?_) (fun hc => ?_)) <;> (((try simp only [z0e] at hc); (try omega)))) | refine zqz ?_ | (refine hK _ ?_; clear hK K) | (refine zqf (fun hb => ?_) (fun hb => ?_) <;> (have hb2 := hb; try simp only [z0e] at hb2) <;> ((first | have F := eq_false hb2 | have F := eq_true hb2); (simp (disch := omega) only [go_sem, Nat.reduceBEq, ↓reduceIte, reduceCtorEq, Nat.reduceAdd, F, t1, t17, tHB, z0t]); clear hb F; (try omega))))
     (refine Exists.intro _ (And.intro ?_ ⟨j + 1, m + 1, n + 1, o2 ++ [gs a[m] b[n]], rfl, ?_⟩)); rotate_left; (simp (disch := omega) only [go_sem, Nat.reduceBEq, Nat.reduceEqDiff, Nat.reduceLeDiff, t0, t1, t3, t4, t5, t26, t27, t28, t13, t14, t15, tHnx, true_and, Int.natCast_add, Int.natCast_one, List.flatMap_append, List.flatMap_cons, List.flatMap_nil, List.append_nil]); rotate_left
     ·omega
     ·exact ⟨by omega, by omega, fun id hid => by rw [z26 _ (by omega)]; exact tp3 id hid, .inl ⟨by omega, by rw [hWd, tp4]; simp, hri2⟩⟩
 ·skip
  repeat' (first | ((refine zqh fun K hK => ?_); (simp (disch := omega) only [go_sem, Nat.reduceBEq, ↓reduceIte, q13, q27, q28])) | (refine zqd _ rfl ?_ ?_ <;> intro hc <;> (((try simp only [z0e] at hc); (try omega)))) | refine nxt ?_ | refine zqz ?_ | refine zqu (by simp only [go_sem]; rfl) rfl ?_ | (refine hK _ ?_; clear hK K))
  obtain rfl : out = W := by
   rcases qp3 with ⟨h, _⟩ | ⟨_, h⟩
   ·omega
   ·exact h
  (simp (disch := omega) only [go_sem, Nat.reduceBEq, qHnx])
  exact qp2
theorem zrk {H : HM} {nx : Nat} (ga : ByteArray -> Tw) (gb : ByteArray -> Tw) (gs : ByteArray -> ByteArray -> Tw) (a : List ByteArray) (b : List ByteArray) (ha : a.length <= 1000000) (hb : b.length <= 1000000) (ps : List (Nat × Nat)) (hps : ps.length <= 1000000) (hr : Rise a.length b.length ps 0 0)
  {g1 g2 g3 : FuncId} {c1 c2 c3 : List D}
  (h1 : ∀ x ∈ a, ∀ H' n', nx <= n' -> z33 nx H H' -> RC prog g1 (D.str x :: c1) H' n' (.agg (z2k (ga x))))
  (h2 : ∀ y ∈ b, ∀ H' n', nx <= n' -> z33 nx H H' -> RC prog g2 (D.str y :: c2) H' n' (.agg (z2k (gb y))))
  (h3 : ∀ x ∈ a, ∀ y ∈ b, ∀ H' n', nx <= n' -> z33 nx H H' -> RC prog g3 ((fun s : ByteArray => D.str s) x :: (fun s : ByteArray => D.str s) y :: c3) H' n' (.agg (z2k (gs x y)))) :
  RC prog 61 [z2g a, z2g b, zt4 ps, .fn g1 c1, .fn g2 c2, .fn g3 c3] H nx (z0w (wov ga gb gs a b ps 0 0)) := by
 refine zmr (k := 2) (z3s _) ((zq4 ga gb gs a b ha hb ps hps hr h1 h2 h3).mono fun r H' nx' ⟨e1, e2, e3⟩ => ⟨?_, e3⟩)
 subst e1
 have e4 : hiH nx H' nx = some (.row 53 (wov ga gb gs a b ps 0 0).length ((wov ga gb gs a b ps 0 0).flatMap z2k)) := by rw [zws (Nat.le_refl _)]; exact e2
 refine ⟨_, z29 (f := z2k) (l := wov ga gb gs a b ps 0 0) (id := nx) 0 e4 zvb zyw (fun z => rfl) (fun z => rfl), Le.refl _⟩
theorem zrl {H : HM} {nx : Nat} (ga : T -> TT) (gb : T -> TT) (gs : T -> T -> TT) (a : List T) (b : List T) (ha : a.length <= 1000000) (hb : b.length <= 1000000) (ps : List (Nat × Nat)) (hps : ps.length <= 1000000) (hr : Rise a.length b.length ps 0 0)
  {g1 g2 g3 : FuncId} {c1 c2 c3 : List D}
  (h1 : ∀ x ∈ a, ∀ H' n', nx <= n' -> z33 nx H H' -> RC prog g1 (c1 ++ [z1n x]) H' n' (.agg (z0s (ga x))))
  (h2 : ∀ y ∈ b, ∀ H' n', nx <= n' -> z33 nx H H' -> RC prog g2 (c2 ++ [z1n y]) H' n' (.agg (z0s (gb y))))
  (h3 : ∀ x ∈ a, ∀ y ∈ b, ∀ H' n', nx <= n' -> z33 nx H H' -> RC prog g3 (z1n x :: z1n y :: c3) H' n' (.agg (z0s (gs x y)))) :
  RC prog 46 [z0t a, z0t b, zt4 ps, .bfn g1 c1, .bfn g2 c2, .fn g3 c3] H nx (z76 (wov ga gb gs a b ps 0 0)) := by
 refine zmr (k := 2) (zk7 _) ((zq5 ga gb gs a b ha hb ps hps hr h1 h2 h3).mono fun r H' nx' ⟨e1, e2, e3⟩ => ⟨?_, e3⟩)
 subst e1
 have e4 : hiH nx H' nx = some (.row 33 (wov ga gb gs a b ps 0 0).length ((wov ga gb gs a b ps 0 0).flatMap z0s)) := by rw [zws (Nat.le_refl _)]; exact e2
 refine ⟨_, z29 (f := z0s) (l := wov ga gb gs a b ps 0 0) (id := nx) 0 e4 zmd zsl (fun z => z41 z) (fun z => z5i z), Le.refl _⟩
def zxw (n : Int) : D := .fn 79 [.rptr (.int .i64 n)]
theorem zkj (n : Int) : PC prog 60 [.int .i64 n] (zxw n) := by
 refine z3l 4 rfl rfl (z2o [] func60 rfl (by decide +kernel) rfl ?_)
 show awp _ _ (Code.seq _ _) _ _
 repeat' (first | ((refine zqh fun K hK => ?_); (simp (disch := omega) only [go_sem, Nat.reduceBEq])) | refine nxt ?_ | refine zqu (by simp only [go_sem]; rfl) rfl ?_ | (refine hK _ ?_; clear hK K))
 refine zbh (zgb 3 rfl (z0b ?_ z40))
 exact z3f 2 rfl z2r (z07 _ rfl)
theorem zgx (n : Int) (s : ByteArray) : PC prog 79 [.str s, .rptr (.int .i64 n)] (.agg (z2k (stW n s))) := by
 refine z3l 2 rfl rfl (z2o [] func79 rfl (by decide +kernel) rfl ?_)
 show awp _ _ (Code.seq _ _) _ _
 repeat' (first | ((refine zqh fun K hK => ?_); (simp (disch := omega) only [go_sem, Nat.reduceBEq, ↓reduceIte, Nat.reduceAdd, Nat.reduceLeDiff])) | refine nxt ?_ | refine zqu (by simp only [go_sem]; rfl) rfl ?_ | (refine hK _ ?_; clear hK K))
 exact z21 rfl (Le.refl _)
theorem zrm (n : Int) (s t : ByteArray) : PC prog 63 [.str s, .str t, .rptr (zxw n)] (.agg (z2k (stW n s))) := by
 have c1 := zgx n s
 refine z3l 2 rfl rfl (z2o [] func63 rfl (by decide +kernel) rfl ?_)
 show awp _ _ (Code.seq _ _) _ _
 repeat' (first | ((first | refine zqh fun K hK => ?_ | refine zqs (c1) ?_); (simp (disch := omega) only [go_sem, Nat.reduceBEq, ↓reduceIte, Nat.reduceAdd, Nat.reduceLeDiff, zxw, z2k, stW])) | refine nxt ?_ | refine zqu (by simp only [go_sem]; rfl) rfl ?_ | (refine hK _ ?_; clear hK K))
 exact z21 rfl (Le.refl _)
theorem zau {a b : List ByteArray} : ∀ (l : List (Nat × Nat)) (i k : Nat), zoo a b l i k -> i <= a.length -> k <= b.length -> Rise a.length b.length l i k
 | [], _, _, _, h1, h2 => ⟨h1, h2⟩
 | (x, y) :: l, i, k, h, _, _ => by
  obtain ⟨q1, q2, q3, q4, _, q6⟩ := h
  simp only at q1 q2 q3 q4
  exact ⟨q1, q3, q2, q4, zau l _ _ q6 (by omega) (by omega)⟩
theorem z83 (a b : List Wd) (ha : a.length <= 1000000) (hb : b.length <= 1000000) : PC prog 43 [z1x a, z1x b] (z0w (z3n (txt a) (txt b))) := by
 have la : (txt a).length <= 1000000 := by simpa [txt] using ha
 have lb : (txt b).length <= 1000000 := by simpa [txt] using hb
 have c1 := zln a ha
 have c2 := zln b hb
 have c3 := zkj 0
 have c4 := zkj 2
 have c5 := zkj 1
 have c6 := pc15 (txt a) (txt b) (by unfold maxLen; omega) (by unfold maxLen; omega)
 refine z3l 2 (by simp only [pureD.pureL, z1t, Bool.and_self]) (z3s _) (z2o [] func43 rfl (by decide +kernel) rfl ?_)
 show awp _ _ (Code.seq _ _) _ _
 repeat' (first | ((first | refine zqh fun K hK => ?_ | refine zqs (c1) ?_ | refine zqs (c2) ?_ | refine zqs (c3) ?_ | refine zqs (c4) ?_ | refine zqs (c5) ?_ | refine zqs (c6) ?_); (simp (disch := omega) only [go_sem, Nat.reduceBEq, ↓reduceIte])) | (refine hK _ ?_; clear hK K))
 refine z34 (zrk (stW 2) (stW 1) (fun s _ => stW 0 s) (txt a) (txt b) la lb (Lcs.pairs (txt a) (txt b)) (by have := (Lcs.pairs_le (txt a) (txt b)).1; omega) (zau _ _ _ (z71 _ _) (Nat.zero_le _) (Nat.zero_le _)) (g1 := 79) (g2 := 79) (g3 := 63) (c1 := [.rptr (.int .i64 2)]) (c2 := [.rptr (.int .i64 1)]) (c3 := [.ptr 0 0])
  (fun x _ H' n' _ _ => (zgx 2 x).rc H' n') (fun x _ H' n' _ _ => (zgx 1 x).rc H' n') (fun x _ y _ H' n' _ hs => PC.borrow (zrm 0 x y) rfl 3 (z0b (z07 _ rfl) (z0b (z07 _ rfl) (z0b (z3f 2 ((hs 0 (by show 0 < 1; omega)).trans rfl) zso (z07 _ rfl)) z40))))) ?_
 (try (simp (disch := omega) only [go_sem, Nat.reduceBEq, ↓reduceIte])); repeat' (first | refine nxt ?_ | refine zqu (by simp only [go_sem]; rfl) rfl ?_ | (refine hK _ ?_; clear hK K))
 exact z21 (z3s _) (Le.refl _)
end
end Go.Proofs.YtfechgagcgbldaaDoor
namespace Go.Proofs.YtfechgagcgbldaaDoor.Lis

def upd1 (x : Int) (acc : Int) (p : Int × Int) : Int := if x < p.1 then max acc (p.2 + 1) else acc
def rows : List Int -> List Int
 | [] => []
 | x :: xs => ((xs.zip (rows xs)).foldl (upd1 x) 1) :: rows xs
theorem rows_length : ∀ l, (rows l).length = l.length
 | [] => rfl
 | x :: xs => by simp [rows, rows_length xs]
def most (l : List Int) : Int := (rows l).foldr max 0

def sel1 (l : List Int) (m : Int) (out : List Nat) (i : Nat) : List Nat :=
 if (out.length : Int) < m /\ (rows l).getD i 0 = m - out.length /\ (out = [] \/ l.getD (out.getLastD 0) 0 < l.getD i 0) then out ++ [i] else out
def sel (l : List Int) (n : Nat) : List Nat := (List.range n).foldl (sel1 l (most l)) []
def lis (l : List Int) : List Nat := if l.length > 256 then [] else sel l l.length
theorem sel_succ (l : List Int) (n : Nat) : sel l (n + 1) = sel1 l (most l) (sel l n) n := by
 simp [sel, List.range_succ]
theorem sel_lt (l : List Int) : ∀ n, ∀ i ∈ sel l n, i < n
 | 0, i, h => by simp [sel] at h
 | n + 1, i, h => by
  rw [sel_succ] at h
  unfold sel1 at h
  split at h
  ·rcases List.mem_append.1 h with h | h
   ·have := sel_lt l n i h; omega
   ·simp at h; omega
  ·have := sel_lt l n i h; omega

theorem zke (x : Int) : ∀ (ps : List (Int × Int)) (a : Int), a <= ps.foldl (upd1 x) a
 | [], a => by simp
 | p :: ps, a => by
  simp only [List.foldl_cons]
  have h1 := zke x ps (upd1 x a p)
  have h2 : a <= upd1 x a p := by unfold upd1; split <;> omega
  omega
theorem zly (x : Int) : ∀ (ps : List (Int × Int)) (a : Int) (p : Int × Int), p ∈ ps -> x < p.1 -> p.2 + 1 <= ps.foldl (upd1 x) a
 | q :: ps, a, p, hp, hx => by
  simp only [List.foldl_cons]
  rcases List.mem_cons.1 hp with rfl | hp
  ·have h1 := zke x ps (upd1 x a p)
   have h2 : p.2 + 1 <= upd1 x a p := by unfold upd1; rw [if_pos hx]; omega
   omega
  ·exact zly x ps _ p hp hx
theorem zf8 (x : Int) : ∀ (ps : List (Int × Int)) (a : Int), ps.foldl (upd1 x) a = a \/ ∃ p ∈ ps, x < p.1 /\ ps.foldl (upd1 x) a = p.2 + 1
 | [], a => .inl rfl
 | q :: ps, a => by
  simp only [List.foldl_cons]
  rcases zf8 x ps (upd1 x a q) with h | ⟨p, hp, h1, h2⟩
  ·unfold upd1 at h ⊢
   by_cases hx : x < q.1
   ·rw [if_pos hx] at h ⊢
    by_cases hm : a <= q.2 + 1
    ·have : max a (q.2 + 1) = q.2 + 1 := by omega
     rw [this] at h ⊢
     exact .inr ⟨q, by simp, hx, h⟩
    ·have : max a (q.2 + 1) = a := by omega
     rw [this] at h ⊢
     exact .inl h
   ·rw [if_neg hx] at h ⊢
    exact .inl h
  ·exact .inr ⟨p, List.mem_cons_of_mem _ hp, h1, h2⟩
theorem rows_pos : ∀ (l : List Int), ∀ r ∈ rows l, 1 <= r
 | [], r, h => by simp [rows] at h
 | x :: xs, r, h => by
  simp only [rows] at h
  rcases List.mem_cons.1 h with rfl | h
  ·exact zke x _ 1
  ·exact rows_pos xs r h
theorem foldr_ge : ∀ (l : List Int), ∀ r ∈ l, r <= l.foldr max 0
 | x :: xs, r, h => by
  simp only [List.foldr_cons]
  rcases List.mem_cons.1 h with rfl | h
  ·omega
  ·have := foldr_ge xs r h; omega
theorem foldr_reach : ∀ (l : List Int), l.foldr max 0 = 0 \/ l.foldr max 0 ∈ l
 | [] => .inl rfl
 | x :: xs => by
  simp only [List.foldr_cons]
  rcases foldr_reach xs with h | h
  ·rw [h]
   by_cases hx : x <= 0
   ·left; omega
   ·right; have : max x 0 = x := by omega
    rw [this]; simp
  ·by_cases hx : x <= xs.foldr max 0
   ·right; have : max x (xs.foldr max 0) = xs.foldr max 0 := by omega
    rw [this]; exact List.mem_cons_of_mem _ h
   ·right; have : max x (xs.foldr max 0) = x := by omega
    rw [this]; simp

theorem rows_step (l : List Int) (i j : Nat) (hij : i < j) (hj : j < l.length) (h : l[i]'(by omega) < l[j]) : (rows l).getD j 0 + 1 <= (rows l).getD i 0 := by
 induction l generalizing i j with
 | nil => simp at hj
 | cons x xs ih =>
  cases i with
  | zero =>
   cases j with
   | zero => omega
   | succ j =>
    simp only [List.length_cons] at hj
    simp only [rows, List.getD_cons_succ, List.getD_cons_zero]
    simp only [List.getElem_cons_zero, List.getElem_cons_succ] at h
    have hl := rows_length xs
    have hmem : (xs[j], (rows xs)[j]'(by omega)) ∈ xs.zip (rows xs) := by
     have : (xs.zip (rows xs))[j]'(by simp; omega) = (xs[j], (rows xs)[j]'(by omega)) := by simp
     rw [<- this]; exact List.getElem_mem _
    have := zly x _ 1 _ hmem h
    simp only at this
    rw [List.getD_eq_getElem?_getD, List.getElem?_eq_getElem (by omega)]
    simpa using this
  | succ i =>
   cases j with
   | zero => omega
   | succ j =>
    simp only [rows, List.getD_cons_succ]
    simp only [List.getElem_cons_succ] at h
    exact ih i j (by omega) (by simpa using hj) h
theorem rows_next (l : List Int) (i : Nat) (hi : i < l.length) (h : 1 < (rows l).getD i 0) : ∃ j, i < j /\ ∃ hj : j < l.length, l[i] < l[j] /\ (rows l).getD j 0 + 1 = (rows l).getD i 0 := by
 induction l generalizing i with
 | nil => simp at hi
 | cons x xs ih =>
  cases i with
  | zero =>
   simp only [rows, List.getD_cons_zero] at h ⊢
   rcases zf8 x (xs.zip (rows xs)) 1 with h1 | ⟨p, hp, h1, h2⟩
   ·omega
   ·obtain ⟨j, hj, rfl⟩ := List.getElem_of_mem hp
    simp only [List.length_zip] at hj
    have hl := rows_length xs
    refine ⟨j + 1, by omega, by simp; omega, ?_, ?_⟩
    ·simpa using h1
    ·rw [h2]
     simp only [List.getD_cons_succ]
     rw [List.getD_eq_getElem?_getD, List.getElem?_eq_getElem (by omega)]
     simp
  | succ i =>
   simp only [rows, List.getD_cons_succ] at h ⊢
   obtain ⟨j, h1, h2, h3, h4⟩ := ih i (by simpa using hi) h
   exact ⟨j + 1, by omega, by simpa using h2, by simpa using h3, by simpa using h4⟩
end Go.Proofs.YtfechgagcgbldaaDoor.Lis
namespace Go.Proofs.YtfechgagcgbldaaDoor.Lis
theorem zxq (l : List Int) (j : Nat) (hj : j < l.length) :
  rows (l.drop j) = (((l.drop (j + 1)).zip (rows (l.drop (j + 1)))).foldl (upd1 l[j]) 1) :: rows (l.drop (j + 1)) := by
 rw [List.drop_eq_getElem_cons hj]; rfl
def inner (l : List Int) (j k : Nat) : Int := (((l.drop (j + 1)).zip (rows (l.drop (j + 1)))).take k).foldl (upd1 (l.getD j 0)) 1
theorem inner_zero (l : List Int) (j : Nat) : inner l j 0 = 1 := rfl
theorem inner_succ (l : List Int) (j k : Nat) (O : j + 1 + k < l.length) (cs : List Int) (hcl : cs.length = l.length) (hcd : cs.drop (j + 1) = rows (l.drop (j + 1))) :
  inner l j (k + 1) = upd1 (l[j]'(by omega)) (inner l j k) (l[j + 1 + k], cs[j + 1 + k]'(by omega)) := by
 unfold inner
 have hlen : ((l.drop (j + 1)).zip (rows (l.drop (j + 1)))).length = l.length - (j + 1) := by simp [rows_length]
 rw [List.take_succ_eq_append_getElem (by rw [hlen]; omega), List.foldl_append]
 simp only [List.foldl_cons, List.foldl_nil]
 have h1 : l.getD j 0 = l[j]'(by omega) := by rw [List.getD_eq_getElem?_getD, List.getElem?_eq_getElem (by omega)]; rfl
 rw [h1]
 congr 1
 simp only [List.getElem_zip, List.getElem_drop, <- hcd]
theorem inner_all (l : List Int) (j : Nat) (hj : j < l.length) : rows (l.drop j) = inner l j (l.length - (j + 1)) :: rows (l.drop (j + 1)) := by
 rw [zxq l j hj]
 unfold inner
 rw [List.take_of_length_le (by simp [rows_length])]
 rw [List.getD_eq_getElem?_getD, List.getElem?_eq_getElem hj]; rfl
theorem zgu : ∀ (l : List Int), ∀ r ∈ rows l, r <= l.length
 | [], r, h => by simp [rows] at h
 | x :: xs, r, h => by
  simp only [rows] at h
  have ih := zgu xs
  have key : ∀ (ps : List (Int × Int)) (a : Int), a <= xs.length + 1 -> (∀ p ∈ ps, p.2 <= xs.length) -> ps.foldl (upd1 x) a <= xs.length + 1 := by
   intro ps
   induction ps with
   | nil => intro a ha _; simpa using ha
   | cons p ps ihp =>
    intro a ha hp
    simp only [List.foldl_cons]
    refine ihp _ ?_ (fun q hq => hp q (List.mem_cons_of_mem _ hq))
    have := hp p (by simp)
    unfold upd1; split <;> omega
  rcases List.mem_cons.1 h with rfl | h
  ·have := key (xs.zip (rows xs)) 1 (by omega) (fun p hp => ih _ (List.of_mem_zip hp).2)
   simpa using this
  ·have := ih r h
   simp; omega
theorem rows_get_le (l : List Int) (j : Nat) (cs : List Int) (hcl : cs.length = l.length) (n : Nat) (hcd : cs.drop n = rows (l.drop n)) (hn : n <= j) (hj : j < l.length) : 1 <= cs[j]'(by omega) /\ cs[j]'(by omega) <= l.length := by
 have hmem : cs[j]'(by omega) ∈ rows (l.drop n) := by
  rw [<- hcd]
  have : (cs.drop n)[j - n]'(by simp; omega) = cs[j]'(by omega) := by simp only [List.getElem_drop]; congr 1; omega
  rw [<- this]; exact List.getElem_mem _
 have h1 := rows_pos _ _ hmem
 have h2 := zgu _ _ hmem
 simp only [List.length_drop] at h2
 omega
end Go.Proofs.YtfechgagcgbldaaDoor.Lis
namespace Go.Proofs.YtfechgagcgbldaaDoor.Lis
theorem inner_le (l : List Int) (j k : Nat) (hj : j < l.length) : inner l j k <= l.length := by
 have key : ∀ (n : Nat) (x : Int) (ps : List (Int × Int)) (a : Int), a <= n + 1 -> (∀ p ∈ ps, p.2 <= n) -> ps.foldl (upd1 x) a <= n + 1 := by
  intro n x ps
  induction ps with
  | nil => intro a ha _; simpa using ha
  | cons p ps ihp =>
   intro a ha hp
   simp only [List.foldl_cons]
   refine ihp _ ?_ (fun q hq => hp q (List.mem_cons_of_mem _ hq))
   have := hp p (by simp)
   unfold upd1; split <;> omega
 have := key (l.drop (j + 1)).length (l.getD j 0) (((l.drop (j + 1)).zip (rows (l.drop (j + 1)))).take k) 1 (by omega)
  (fun p hp => zgu _ _ (List.of_mem_zip (List.mem_of_mem_take hp)).2)
 unfold inner
 simp only [List.length_drop] at this
 omega
end Go.Proofs.YtfechgagcgbldaaDoor.Lis
namespace Go.Proofs.YtfechgagcgbldaaDoor.Lis
theorem most_bd (l : List Int) : 0 <= most l /\ most l <= l.length := by
 unfold most
 rcases foldr_reach (rows l) with h | h
 ·rw [h]; omega
 ·have h1 := rows_pos l _ h
  have h2 := zgu l _ h
  omega
theorem sel_len (l : List Int) : ∀ n, (sel l n).length <= n
 | 0 => by simp [sel]
 | n + 1 => by
  rw [sel_succ]
  have := sel_len l n
  unfold sel1; split
  ·simp; omega
  ·omega
end Go.Proofs.YtfechgagcgbldaaDoor.Lis
